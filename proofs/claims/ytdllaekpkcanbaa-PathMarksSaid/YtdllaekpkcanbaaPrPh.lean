/- laid together -/
import Derived.Test.YtdllaekpkcanbaaPrPf
import Derived.Test.YtdllaekpkcanbaaPrDv
import Derived.Test.YtdllaekpkcanbaaMx5
set_option linter.unusedVariables false
set_option linter.unusedSimpArgs false
/- the program's path of a list of items: its points, its marks, what it adds -/
set_option maxRecDepth 100000
namespace Go.Bm
open Classical

theorem a_path_points {MM MN MS MC MSm MK : List AC -> Option (List AC)} {items : List Itm} {i : Nat} {frm : Int} (hi : i < items.length) (hd : drawn (itA items i)) (hf : frmOK items i frm) (hall : ∀ k < items.length, motI (itA items k) -> drawn (itA items k))
  (hK : MK (itmR (itA items i)) = some [.view kPt ((chordsP (itA items i)).map ptR), B true]) (hM : MSm (itmR (itA items i)) = some [B (decide (smI (itA items i)))])
  (hJ : ∀ {i k : Nat}, i < items.length -> k < items.length -> drawn (itA items i) -> drawn (itA items k) -> MC (itmR (itA items i) ++ itmR (itA items k)) = some [.view kPt (((joinedP items i k).take ((joinedP items i k).length / 2 + 1)).map ptR), .view kPt (((joinedP items i k).drop ((joinedP items i k).length / 2)).map ptR)])
  (hS : MS [.view kItm (items.map itmR), I i] = some [B (decide (0 <= softK items i))]) (hN : MN [.view kItm (items.map itmR), I i] = some [I (nextN items i)]) (hC : MM (itmR (itA items i)) = some (ptR (centerP (itA items i)))) :
  mf_path_points MM MN MS MC MSm MK [.view kItm (items.map itmR), I i, I frm] = some [.view kPt ((pointsP items i frm).map ptR)] := by
 have r1 := row_itA hi
 obtain ⟨hcl1, hcl2⟩ := chordsP_len (itA items i)
 rw [mf_path_points_eq]
 simp only [itmR, List.cons_append, List.nil_append] at hK hM hC hJ
 have hin : (0 : Int) <= (i : Int) /\ (i : Int) < (items.length : Int) := by omega
 simp only [go_sem, List.length_map, Int.toNat_natCast, r1, hK, hM, hC, hS, hN, List.nil_append, if_pos hin]
 unfold pointsP
 by_cases hs : smI (itA items i)
 case neg => rw [if_pos (by simp [hs]), if_neg hs]
 rw [if_neg (by simp [hs]), if_pos hs]
 have hk3 : (itA items i).kind ≠ 3 := by have := hs.1; omega
 have hcl3 : (chordsP (itA items i)).length = 2 := by unfold chordsP; rw [if_neg hk3]; rfl
 have w1 : IntKind.i64.wrap (((chordsP (itA items i)).length : Int) - 1) = 1 := by rw [hcl3]; rfl
 rw [w1, hcl3, if_pos (by omega), if_pos (by omega)]
 unfold tailP
 rcases hf with rfl | ⟨f, rfl, hf1, hf2⟩
 ·rw [if_neg (show ¬ (-1 : Int) >= 0 by omega)]
  unfold headP
  rw [if_neg (show ¬ (0 : Int) <= -1 by omega)]
  by_cases hpos : 0 <= softK items i
  ·obtain ⟨k, hk, hk1, hk2⟩ := soft_get hall hpos
   have hnx := soft_next hpos
   rw [hk] at hnx
   have hnk : nextN items i = k := by omega
   obtain ⟨j1, j2, j3⟩ := joined_bd (items := items) (i := i) (k := k) hd hk2
   have hj := hJ hi hk1 hd hk2
   have r2 := row_itA hk1
   have hin2 : (0 : Int) <= (k : Int) /\ (k : Int) < (items.length : Int) := by omega
   rw [if_pos hpos, if_pos hpos, hk, hnk, Int.toNat_natCast, if_pos hin2]
   simp only [go_sem, Int.toNat_natCast, r2, hj]
   rw [if_pos (by simp [map_take1]; omega), if_pos (by simp; omega), if_pos (by simp; omega)]
   simp only [map_take1, List.map_append, List.map_cons, List.map_nil]
  ·rw [if_neg hpos, if_neg hpos, if_pos (by simp [map_take1]; omega), if_pos (by simp; omega), if_pos (by simp; omega)]
   simp only [map_take1, map_drop1, List.map_append, List.map_cons, List.map_nil]
 ·have hjf := hJ hf1 hi hf2 hd
  obtain ⟨f1, f2, f3⟩ := joined_bd (items := items) (i := f) (k := i) hf2 hd
  have rf := row_itA hf1
  have hinf : (0 : Int) <= (f : Int) /\ (f : Int) < (items.length : Int) := by omega
  rw [if_pos (show (f : Int) >= 0 by omega), if_pos hinf]
  unfold headP
  rw [if_pos (show (0 : Int) <= (f : Int) by omega), Int.toNat_natCast]
  simp only [rf, go_sem, hjf, Int.toNat_natCast]
  by_cases hpos : 0 <= softK items i
  ·obtain ⟨k, hk, hk1, hk2⟩ := soft_get hall hpos
   have hnx := soft_next hpos
   rw [hk] at hnx
   have hnk : nextN items i = k := by omega
   obtain ⟨j1, j2, j3⟩ := joined_bd (items := items) (i := i) (k := k) hd hk2
   have hj := hJ hi hk1 hd hk2
   have r2 := row_itA hk1
   have hin2 : (0 : Int) <= (k : Int) /\ (k : Int) < (items.length : Int) := by omega
   rw [if_pos hpos, if_pos hpos, hk, hnk, Int.toNat_natCast, if_pos hin2]
   simp only [go_sem, Int.toNat_natCast, r2, hj]
   rw [if_pos (by simp; omega), if_pos (by simp; omega), if_pos (by simp; omega)]
   simp only [List.map_append, List.map_cons, List.map_nil]
  ·rw [if_neg hpos, if_neg hpos, if_pos (by simp; omega), if_pos (by simp; omega), if_pos (by simp; omega)]
   simp only [map_drop1, List.map_append, List.map_cons, List.map_nil]
theorem s_path_points {items : List Itm} (hl : items.length <= 1000000) {i : Nat} {frm : Int} (hi : i < items.length) (hd : drawn (itA items i)) (hf : frmOK items i frm) (hall : ∀ k < items.length, motI (itA items k) -> drawn (itA items k)) :
  m_path_points [.view kItm (items.map itmR), I i, I frm] = some [.view kPt ((pointsP items i frm).map ptR)] :=
 a_path_points hi hd hf hall (s_curve_Chords hd.1) (s_path_smooth _) (fun h1 h2 h3 h4 => s_path_corner h3 h4) (s_path_soft hl hi) (s_path_next hl hi) (s_path_middle hd.1.2.1 hd.1.2.2.1)

theorem l_exact {MM MS : List AC -> Option (List AC)} {l : List Itm} (hM : ∀ k : Int, MM [I k] = some [B (decide (1 <= k /\ k <= 6))]) (hS : ∀ it, MS (itmR it) = some [B (decide (syI it))]) (hl : l.length <= 1000000) : ∀ (k i : Nat), i + k = l.length ->
  (loopC (st_path_exact_4 MM MS) [.view kItm (l.map itmR), I l.length, I i] = some (1, [B (decide (nextSy (l.drop i) = 1))])) \/ (loopC (st_path_exact_4 MM MS) [.view kItm (l.map itmR), I l.length, I i] = some (2, []) /\ nextSy (l.drop i) = 2)
 | 0, i, hi => by
  right
  refine ⟨loop_end ?_ (by simp), by rw [List.drop_of_length_le (by omega)]; rfl⟩
  rw [st_path_exact_4_eq]
  simp only [go_sem]
  rw [if_neg (by omega)]
 | k + 1, i, hi => by
  have hlt : i < l.length := by omega
  have hr := row_itA hlt
  rw [drop_itA hlt]
  have hs := hS (itA l i)
  have hm := hM (itA l i).kind
  have hst : st_path_exact_4 MM MS [.view kItm (l.map itmR), I l.length, I i] = if motI (itA l i) then some (1, [B (decide (syI (itA l i)))]) else some (0, [.view kItm (l.map itmR), I l.length, I (i + 1 : Nat)]) := by
   rw [st_path_exact_4_eq]
   simp only [itmR] at hs
   have hin : (0 : Int) <= (i : Int) /\ (i : Int) < (l.length : Int) := by omega
   simp only [go_sem, List.length_map, Int.toNat_natCast, hr, hs, hm, if_pos hin]
   rw [if_pos (by omega), wrap_id (by omega)]
   by_cases h1 : motI (itA l i)
   ·rw [if_pos (show 1 <= (itA l i).kind /\ (itA l i).kind <= 6 from h1), if_pos h1]
   ·rw [if_neg (show ¬ (1 <= (itA l i).kind /\ (itA l i).kind <= 6) from h1), if_neg h1]; rfl
  unfold nextSy
  by_cases h10 : motI (itA l i)
  ·rw [if_pos h10] at hst ⊢
   left
   rw [loop_end hst (by simp)]
   by_cases hsm : syI (itA l i)
   ·rw [if_pos hsm, decide_eq_true hsm]; rfl
   ·rw [if_neg hsm, decide_eq_false hsm]; rfl
  ·rw [if_neg h10] at hst ⊢
   rw [loop_more hst]
   exact l_exact hM hS hl k (i + 1) (by omega)
def exactI (items : List Itm) (i : Nat) : Prop := (itA items i).blend = 0 \/ syI (itA items i) \/ nextSy (items.drop (i + 1)) = 1
theorem a_path_exact {MM MS : List AC -> Option (List AC)} {items : List Itm} (hM : ∀ k : Int, MM [I k] = some [B (decide (1 <= k /\ k <= 6))]) (hS : ∀ it, MS (itmR it) = some [B (decide (syI it))]) (hl : items.length <= 1000000) {i : Nat} (hi : i < items.length) :
  mf_path_exact MM MS (loopC (st_path_exact_4 MM MS)) [.view kItm (items.map itmR), I i] = some [B (decide (exactI items i))] := by
 have hr := row_itA hi
 have hs := hS (itA items i)
 have hL := l_exact hM hS (l := items.drop (i + 1)) (by rw [List.length_drop]; omega) (items.drop (i + 1)).length 0 (by omega)
 rw [List.drop_zero] at hL
 rw [mf_path_exact_eq]
 simp only [itmR] at hs
 have hw : IntKind.i64.wrap ((i : Int) + 1) = ((i + 1 : Nat) : Int) := by rw [wrap_id (by omega)]; omega
 have hin : (0 : Int) <= (i : Int) /\ (i : Int) < (items.length : Int) := by omega
 have hin3 : (0 : Int) <= ((i + 1 : Nat) : Int) /\ ((i + 1 : Nat) : Int) <= (items.length : Int) := by omega
 have hdl : (List.drop (i + 1) (items.map itmR)).length = (items.drop (i + 1)).length := by rw [List.length_drop, List.length_drop, List.length_map]
 generalize loopC (st_path_exact_4 MM MS) = N at *
 simp only [go_sem, List.length_map, Int.toNat_natCast, hr, hs, hw, if_pos hin, if_pos hin3, hdl]
 rw [<- List.map_drop]
 by_cases h2 : (itA items i).blend = 0
 ·rw [if_pos h2, decide_eq_true (show exactI items i from .inl h2)]
 ·rw [if_neg h2]
  by_cases h3 : syI (itA items i)
  ·rw [if_pos h3, decide_eq_true (show exactI items i from .inr (.inl h3))]
  ·rw [if_neg h3]
   rcases hL with hL | ⟨hL, hn⟩
   ·have hL' : N [.view kItm ((items.drop (i + 1)).map itmR), I (items.drop (i + 1)).length, I 0] = some (1, [B (decide (nextSy (items.drop (i + 1)) = 1))]) := hL
    simp only [hL', go_sem]
    by_cases h4 : nextSy (items.drop (i + 1)) = 1
    ·rw [decide_eq_true h4, decide_eq_true (show exactI items i from .inr (.inr h4))]
    ·rw [decide_eq_false h4, decide_eq_false (show ¬ exactI items i from fun h => h.elim h2 fun h => h.elim h3 h4)]
   ·have hL' : N [.view kItm ((items.drop (i + 1)).map itmR), I (items.drop (i + 1)).length, I 0] = some (2, []) := hL
    simp only [hL', go_sem]
    rw [decide_eq_false (show ¬ exactI items i from fun h => h.elim h2 fun h => h.elim h3 fun h => by rw [hn] at h; cases h)]
    simp
theorem s_path_exact {items : List Itm} (hl : items.length <= 1000000) {i : Nat} (hi : i < items.length) : m_path_exact [.view kItm (items.map itmR), I i] = some [B (decide (exactI items i))] := a_path_exact s_path_motion s_path_geared hl hi
def markK (items : List Itm) (i : Nat) : Int := if motI (itA items i) then kindK items i else otherK (itA items i)
theorem a_path_mark {ME MM : List AC -> Option (List AC)} {items : List Itm} {i : Nat} {segs : List (List AC)} {marks : List Mrk} {st : Pt} {b : Bool} {len sp mid : Int} (hi : i < items.length) (hml : marks.length <= 1000000)
  (hM : MM [I (itA items i).kind] = some [B (decide (motI (itA items i)))]) (hE : ME [.view kItm (items.map itmR), I i] = some [B (decide (exactI items i))]) :
  mf_path_builder_mark ME MM [.view kSgm segs, .view kMrk (marks.map mrkR), .view kItm (items.map itmR), I i, I st.x, I st.y, I st.z, B b, I len, I sp, I mid] =
   some [.view kSgm segs, .view kMrk ((marks ++ [(⟨len, markK items i, i⟩ : Mrk)]).map mrkR), I st.x, I st.y, I st.z, B b, I len, I sp, I mid] := by
 have hr := row_itA hi
 have hin : (0 : Int) <= (i : Int) /\ (i : Int) < (items.length : Int) := by omega
 have hb : (marks.length + 1) * 24 <= 140737488355328 := by omega
 have e : ∀ k : Int, marks.map mrkR ++ [[I len, I k, I i]] = (marks ++ [(⟨len, k, i⟩ : Mrk)]).map mrkR := fun k => by rw [List.map_append]; rfl
 rw [mf_path_builder_mark_eq]
 simp only [go_sem, List.length_map, Int.toNat_natCast, hr, if_pos hin, hM, hE, List.length_append, List.length_cons, List.length_nil, if_pos hb]
 have fin : ∀ {k : Int}, k = markK items i -> some [AC.view kSgm segs, .view kMrk (marks.map mrkR ++ [[I len, I k, I i]]), I st.x, I st.y, I st.z, B b, I len, I sp, I mid] = some [.view kSgm segs, .view kMrk ((marks ++ [(⟨len, markK items i, i⟩ : Mrk)]).map mrkR), I st.x, I st.y, I st.z, B b, I len, I sp, I mid] := by
  intro k hk; rw [e, hk]
 unfold markK kindK otherK at fin ⊢
 by_cases c4 : (itA items i).kind = 4
 ·rw [if_pos c4]
  have hm : motI (itA items i) := ⟨by omega, by omega⟩
  exact fin (by rw [if_pos hm, if_pos c4])
 ·rw [if_neg c4]
  by_cases hm : motI (itA items i)
  ·rw [if_pos hm]
   by_cases hx : exactI items i
   ·rw [if_pos hx]
    refine fin ?_
    rw [if_pos hm, if_neg c4]
    rcases hx with h | h | h
    ·rw [if_pos h]
    ·by_cases h2 : (itA items i).blend = 0
     ·rw [if_pos h2]
     ·rw [if_neg h2, if_pos h]
    ·by_cases h2 : (itA items i).blend = 0
     ·rw [if_pos h2]
     ·rw [if_neg h2]
      by_cases h3 : syI (itA items i)
      ·rw [if_pos h3]
      ·rw [if_neg h3, h]
   ·rw [if_neg hx, if_pos hm]
    refine fin ?_
    rw [if_pos hm, if_neg c4, if_neg (fun h => hx (.inl h)), if_neg (fun h => hx (.inr (.inl h)))]
    have hns : ∀ l : List Itm, nextSy l = 1 \/ nextSy l = 2 := by
     intro l
     induction l with
     | nil => right; rfl
     | cons it l ih =>
      unfold nextSy
      split
      ·split <;> simp
      ·exact ih
    rcases hns (items.drop (i + 1)) with h | h
    ·exact absurd (.inr (.inr h)) hx
    ·rw [h]
  ·rw [if_neg hm, if_neg hm]
   by_cases c10 : (itA items i).kind = 10
   ·rw [if_pos c10]; exact fin (by rw [if_neg hm, if_pos c10])
   ·rw [if_neg c10]
    by_cases c13 : (itA items i).kind = 13
    ·rw [if_pos c13]; exact fin (by rw [if_neg hm, if_neg c10, if_pos c13])
    ·rw [if_neg c13]; exact fin (by rw [if_neg hm, if_neg c10, if_neg c13])
theorem s_path_mark {items : List Itm} (hl : items.length <= 1000000) {i : Nat} {segs : List (List AC)} {marks : List Mrk} {st : Pt} {b : Bool} {len sp mid : Int} (hi : i < items.length) (hml : marks.length <= 1000000) :
  m_path_builder_mark [.view kSgm segs, .view kMrk (marks.map mrkR), .view kItm (items.map itmR), I i, I st.x, I st.y, I st.z, B b, I len, I sp, I mid] =
   some [.view kSgm segs, .view kMrk ((marks ++ [(⟨len, markK items i, i⟩ : Mrk)]).map mrkR), I st.x, I st.y, I st.z, B b, I len, I sp, I mid] :=
 a_path_mark hi hml (s_path_motion _) (s_path_exact hl hi)
end Go.Bm
/- the program's path of a list of items is the reference's -/
set_option maxRecDepth 100000
namespace Go.Bm
open Classical

theorem segs_last (a : Pt) (segs : List Sgm) : segs = [] \/ ∃ l g, segs = l ++ [g] /\ endOf a segs = g.to /\ ((segs.length : Int) > 0) /\ nth [] (segs.map sgmR) (segs.length - 1) = sgmR g := by
 rcases List.eq_nil_or_concat segs with h | ⟨l, g, h⟩
 ·exact .inl h
 ·right
  rw [List.concat_eq_append] at h
  refine ⟨l, g, h, ?_, ?_, ?_⟩
  ·rw [h]; exact endOf_snoc g a l
  ·rw [h]; simp
  ·have hl : segs.length - 1 < segs.length := by rw [h]; simp
   rw [nth_map _ _ _ _ hl]
   congr 1
   subst h
   simp
theorem a_path_add0 {ML : List AC -> Option (List AC)} {marks : List (List AC)} {q g st : Pt} {gl item feed lead len sp mid : Int} :
  mf_path_builder_add ML [.view kSgm [], .view kMrk marks, I q.x, I q.y, I q.z, I g.x, I g.y, I g.z, I gl, I item, I feed, I lead, I st.x, I st.y, I st.z, B false, I len, I sp, I mid] =
   some [.view kSgm [], .view kMrk marks, I q.x, I q.y, I q.z, B true, I len, I sp, I mid] := by
 rw [mf_path_builder_add_eq]
 simp
theorem a_path_add {ML : List AC -> Option (List AC)} {segs : List Sgm} {marks : List (List AC)} {q g st at_ : Pt} {gl item feed lead len sp mid : Int} (hat : endOf st segs = at_)
  (hL : ML [I at_.x, I at_.y, I at_.z, I q.x, I q.y, I q.z] = some [I (lenP at_ q)]) (hl : 0 <= lenP at_ q /\ lenP at_ q <= 268435456) (hs : segs.length + 1 <= 1048577) (hlen : 0 <= len /\ len <= 4000000000000000000) :
  mf_path_builder_add ML [.view kSgm (segs.map sgmR), .view kMrk marks, I q.x, I q.y, I q.z, I g.x, I g.y, I g.z, I gl, I item, I feed, I lead, I st.x, I st.y, I st.z, B true, I len, I sp, I mid] =
   some [.view kSgm ((addPt item feed lead (segs, len, at_) q).1.map sgmR), .view kMrk marks, I st.x, I st.y, I st.z, B true, I (addPt item feed lead (segs, len, at_) q).2.1, I sp, I mid] := by
 have hap : (segs.map sgmR ++ [[I q.x, I q.y, I q.z, I (lenP at_ q), I item, I feed, I lead]]) = (segs ++ [(⟨q, lenP at_ q, item, feed, lead⟩ : Sgm)]).map sgmR := by rw [List.map_append]; rfl
 rw [mf_path_builder_add_eq]
 try dsimp only [go_sem]
 rcases segs_last st segs with h | ⟨l, s, h1, h2, h3, h4⟩
 ·subst h
  have hat' : st = at_ := hat
  subst hat'
  simp only [List.map_nil, List.length_nil]
  rw [bif_neg (by decide), Bool.not_true, cond_false]
  by_cases c : q = st
  ·have c4 := pt_ext.1 c
   rw [bif_true (by simp [c4.1, c4.2.1, c4.2.2]), show addPt item feed lead ([], len, st) q = ([], len, st) from if_pos c]
   rfl
  ·rw [bif_false, hL]
   ·simp only [Option.bind_some, nth_zero', intOf_int, gA, jA, wA, bA, List.nil_append, List.length_cons, List.length_nil]
    rw [bif_true (by decide), show addPt item feed lead ([], len, st) q = ([⟨q, lenP st q, item, feed, lead⟩], len + lenP st q, q) from if_neg c, wrap_id (by omega)]
    rfl
   ·have c2 : ¬ (q.x = st.x /\ q.y = st.y /\ q.z = st.z) := fun g => c (pt_ext.2 g)
    simp only [Bool.and_true, Bool.and_eq_false_iff, beq_eq_false_iff_ne]
    omega
 ·rw [hat] at h2
  have w1 : IntKind.i64.wrap ((segs.length : Int) - 1) = ((segs.length - 1 : Nat) : Int) := by rw [wrap_id (by omega)]; omega
  have hin : (0 : Int) <= ((segs.length - 1 : Nat) : Int) /\ ((segs.length - 1 : Nat) : Int) < (segs.length : Int) := by omega
  rw [h2] at hL hap ⊢
  clear h1
  simp only [go_sem, List.length_map, w1, Int.toNat_natCast, h4, if_pos h3, if_pos hin, hL, List.length_append, List.length_cons, List.length_nil]
  rw [if_neg (by simp)]
  by_cases c : q = s.to
  ·have c4 := pt_ext.1 c
   rw [if_pos ⟨c4.1, c4.2.1, c4.2.2, trivial⟩, show addPt item feed lead (segs, len, s.to) q = (segs, len, s.to) from if_pos c]
  ·rw [if_neg (fun g => c (pt_ext.2 ⟨g.1, g.2.1, g.2.2.1⟩)), if_pos (by omega), show addPt item feed lead (segs, len, s.to) q = (segs ++ [⟨q, lenP s.to q, item, feed, lead⟩], len + lenP s.to q, q) from if_neg c, wrap_id (by rw [<- h2] at *; omega), hap]
noncomputable def stepM (it : Itm) (item feed lead : Int) (s : (List Sgm × Int × Pt) × Int) (q : Pt) : (List Sgm × Int × Pt) × Int :=
 (addPt item feed lead s.1 q, if smI it /\ q = centerP it then (addPt item feed lead s.1 q).2.1 else s.2)
theorem stepM_fst {it : Itm} {item feed lead : Int} : ∀ (pts : List Pt) (s : (List Sgm × Int × Pt) × Int), (pts.foldl (stepM it item feed lead) s).1 = pts.foldl (addPt item feed lead) s.1
 | [], _ => rfl
 | q :: pts, s => by rw [List.foldl_cons, List.foldl_cons, stepM_fst pts]; rfl
theorem st_move {MM MSm MA MP MG MR : List AC -> Option (List AC)} {it : Itm} {pts : List Pt} {j : Nat} (hj : j < pts.length) (hpl : pts.length <= 1000000) {segs segs' : List (List AC)} {marks : List (List AC)} {g st st' : Pt} {b b' : Bool} {gl item feed lead len len' sp mid : Int}
  (hM : MSm (itmR it) = some [B (decide (smI it))]) (hC : MM (itmR it) = some (ptR (centerP it)))
  (hA : MA [.view kSgm segs, .view kMrk marks, I pts[j].x, I pts[j].y, I pts[j].z, I g.x, I g.y, I g.z, I gl, I item, I feed, I lead, I st.x, I st.y, I st.z, B b, I len, I sp, I mid] = some [.view kSgm segs', .view kMrk marks, I st'.x, I st'.y, I st'.z, B b', I len', I sp, I mid]) :
  st_path_builder_move_6 MM MSm MA MP MG MR (.view kSgm segs :: .view kMrk marks :: .view kPt (pts.map ptR) :: I pts.length :: I j :: (itmR it ++ [I g.x, I g.y, I g.z, I gl, I item, I feed, I lead, I st.x, I st.y, I st.z, B b, I len, I sp, I mid])) =
   some (0, .view kSgm segs' :: .view kMrk marks :: .view kPt (pts.map ptR) :: I pts.length :: I (j + 1 : Nat) :: (itmR it ++ [I g.x, I g.y, I g.z, I gl, I item, I feed, I lead, I st'.x, I st'.y, I st'.z, B b', I len', I sp, I (if smI it /\ pts[j] = centerP it then len' else mid)])) := by
 have hr : nth [] (pts.map ptR) j = ptR pts[j] := nth_map _ _ _ _ hj
 have hin : (0 : Int) <= (j : Int) /\ (j : Int) < (pts.length : Int) := by omega
 have hw : IntKind.i64.wrap ((j : Int) + 1) = ((j + 1 : Nat) : Int) := by rw [wrap_id (by omega)]; omega
 generalize pts[j] = q at *
 simp only [itmR] at hM hC
 simp only [itmR, List.cons_append, List.nil_append]
 rw [st_path_builder_move_6_eq]
 simp only [go_sem, List.length_map, Int.toNat_natCast, hr, if_pos hin, hA, hM, hC, hw]
 rw [if_pos (by omega)]
 by_cases c : smI it
 ·rw [if_pos c]
  by_cases c2 : q = centerP it
  ·have c3 := pt_ext.1 c2
   rw [if_pos ⟨c3.1, c3.2.1, c3.2.2, trivial⟩, if_pos ⟨c, c2⟩]
  ·rw [if_neg (fun h => c2 (pt_ext.2 ⟨h.1, h.2.1, h.2.2.1⟩)), if_neg (fun h => c2 h.2)]
 ·rw [if_neg c, if_neg (fun h => c h.1)]
theorem l_move {MM MSm MA MP MG MR : List AC -> Option (List AC)} {it : Itm} {pts : List Pt} (hpl : pts.length <= 1000000) {marks : List (List AC)} {g st : Pt} {gl item feed lead sp : Int} (hst : bd 67108864 st) (hpts : ∀ p ∈ pts, bd 67108864 p)
  (hM : MSm (itmR it) = some [B (decide (smI it))]) (hC : MM (itmR it) = some (ptR (centerP it)))
  (hA : ∀ {segs : List Sgm} {q at_ : Pt} {len mid : Int}, endOf st segs = at_ -> bd 67108864 at_ -> bd 67108864 q -> segs.length + 1 <= 1048577 -> (0 <= len /\ len <= 4000000000000000000) ->
   MA [.view kSgm (segs.map sgmR), .view kMrk marks, I q.x, I q.y, I q.z, I g.x, I g.y, I g.z, I gl, I item, I feed, I lead, I st.x, I st.y, I st.z, B true, I len, I sp, I mid] =
   some [.view kSgm ((addPt item feed lead (segs, len, at_) q).1.map sgmR), .view kMrk marks, I st.x, I st.y, I st.z, B true, I (addPt item feed lead (segs, len, at_) q).2.1, I sp, I mid]) :
  ∀ (k j : Nat) (s : List Sgm × Int × Pt) (mid : Int), j + k = pts.length -> s.1.length + k <= 1048576 -> 0 <= s.2.1 -> s.2.1 + k * 268435456 <= 4000000000000000000 -> bd 67108864 s.2.2 -> endOf st s.1 = s.2.2 ->
  loopC (st_path_builder_move_6 MM MSm MA MP MG MR) (.view kSgm (s.1.map sgmR) :: .view kMrk marks :: .view kPt (pts.map ptR) :: I pts.length :: I j :: (itmR it ++ [I g.x, I g.y, I g.z, I gl, I item, I feed, I lead, I st.x, I st.y, I st.z, B true, I s.2.1, I sp, I mid])) =
   some (1, [.view kSgm (((pts.drop j).foldl (stepM it item feed lead) (s, mid)).1.1.map sgmR), .view kMrk marks, I st.x, I st.y, I st.z, B true, I ((pts.drop j).foldl (stepM it item feed lead) (s, mid)).1.2.1, I sp, I ((pts.drop j).foldl (stepM it item feed lead) (s, mid)).2])
 | 0, j, s, mid, hj, _, _, _, _, _ => by
  refine loop_end ?_ (by simp)
  simp only [itmR, List.cons_append, List.nil_append]
  rw [st_path_builder_move_6_eq, bif_neg (by omega), List.drop_of_length_le (by omega)]
  rfl
 | k + 1, j, s, mid, hj, hs, hl0, hl1, hat, he => by
  have hlt : j < pts.length := by omega
  have hq := hpts _ (List.getElem_mem hlt)
  obtain ⟨segs, len, at_⟩ := s
  simp only at hs hl0 hl1 hat he
  have ha := hA (q := pts[j]) (mid := mid) he hat hq (by omega) (by constructor <;> omega)
  have hstep := st_move (MP := MP) (MG := MG) (MR := MR) hlt hpl hM hC ha
  have hinv : endOf st (addPt item feed lead (segs, len, at_) pts[j]).1 = (addPt item feed lead (segs, len, at_) pts[j]).2.2 /\ bd 67108864 (addPt item feed lead (segs, len, at_) pts[j]).2.2 /\
    (addPt item feed lead (segs, len, at_) pts[j]).1.length <= segs.length + 1 /\ 0 <= (addPt item feed lead (segs, len, at_) pts[j]).2.1 /\ (addPt item feed lead (segs, len, at_) pts[j]).2.1 <= len + 268435456 := by
   have hl := len_bd hat hq
   unfold addPt
   split
   ·exact ⟨he, hat, by simp, hl0, by simp only; omega⟩
   ·refine ⟨endOf_snoc _ _ _, hq, by simp, ?_, ?_⟩ <;> simp only <;> omega
  rw [loop_more hstep]
  obtain ⟨i1, i2, i3, i4, i5⟩ := hinv
  have := l_move (MP := MP) (MG := MG) (MR := MR) hpl hst hpts hM hC hA k (j + 1) (addPt item feed lead (segs, len, at_) pts[j]) (if smI it /\ pts[j] = centerP it then (addPt item feed lead (segs, len, at_) pts[j]).2.1 else mid) (by omega) (by omega) i4 (by omega) i2 i1
  rw [this, getElem_take_drop pts j hlt, List.foldl_cons]
  rfl
theorem chords_head {it : Itm} (h : validI it) : ∃ l, chordsP it = fine it.fr :: l := by
 unfold chordsP
 by_cases h3 : it.kind = 3
 ·rw [if_pos h3]
  unfold spokesP
  rw [List.map_cons]
  refine ⟨(pcsL it.dir 16 it.full (endS it it.fr) (endS it it.to)).map (chPt it), ?_⟩
  congr 1
  obtain ⟨hp, -, hc, -⟩ := h.2.2.2 h3
  obtain ⟨f1, f2, f3⟩ := pl_fine it.plane it.ce
  unfold chPt endS
  simp only [f1, f2]
  unfold dU dW
  have e1 : plU it.plane it.ce * 16 + (plU it.plane it.fr - plU it.plane it.ce) * 16 = plU it.plane it.fr * 16 := by omega
  have e2 : plW it.plane it.ce * 16 + (plW it.plane it.fr - plW it.plane it.ce) * 16 = plW it.plane it.fr * 16 := by omega
  rw [e1, e2]
  unfold spP plU plW plH fine
  rcases hp with hp | hp | hp <;> rw [hp] <;> rfl
 ·rw [if_neg h3]; exact ⟨_, rfl⟩
theorem points_head {items : List Itm} {i : Nat} (h : validI (itA items i)) : ∃ l, pointsP items i (-1) = fine (itA items i).fr :: l := by
 obtain ⟨l, hl⟩ := chords_head h
 unfold pointsP
 split
 ·unfold headP
  rw [if_neg (by omega), hl]
  exact ⟨_, rfl⟩
 ·exact ⟨l, hl⟩
noncomputable def motM (items : List Itm) (i : Nat) (s : BSt) (mid : Int) : (List Sgm × Int × Pt) × Int :=
 (pointsP items i s.frm).foldl (stepM (itA items i) i (rate (itA items i) s.speed) (leadI (itA items i))) ((s.segs, s.len, if s.begun = true then s.at_ else fine (itA items i).fr), mid)
theorem motM_fst (items : List Itm) (i : Nat) (s : BSt) (mid : Int) : (motM items i s mid).1 = motS items i s := by
 unfold motM motS
 rw [stepM_fst]
theorem a_path_move {MM MSm MA MP MG MR : List AC -> Option (List AC)} {items : List Itm} {i : Nat} {s : BSt} {marks : List (List AC)} {mid : Int} (hi : i < items.length) (hlen : items.length <= 15) (hv : validI (itA items i)) (hok : BOK items i s) (hinv : BInv s)
  (hpts : (∀ p ∈ pointsP items i s.frm, bd 67108864 p) /\ (pointsP items i s.frm).length <= 65537)
  (hfeed : syI (itA items i) -> 0 <= (itA items i).feed /\ (itA items i).feed <= 60000000) (hfrm : s.begun = false -> s.frm = -1)
  (hM : MSm (itmR (itA items i)) = some [B (decide (smI (itA items i)))]) (hC : MM (itmR (itA items i)) = some (ptR (centerP (itA items i))))
  (hG : MG (itmR (itA items i)) = some [B (decide (syI (itA items i)))]) (hR : MR (itmR (itA items i) ++ [I s.speed]) = some [I (rate (itA items i) s.speed)])
  (hP : MP [.view kItm (items.map itmR), I i, I s.frm] = some [.view kPt ((pointsP items i s.frm).map ptR)])
  (hA : ∀ {segs : List Sgm} {q g st at_ : Pt} {gl item feed lead len mid : Int}, endOf st segs = at_ -> bd 67108864 at_ -> bd 67108864 q -> segs.length + 1 <= 1048577 -> (0 <= len /\ len <= 4000000000000000000) ->
   MA [.view kSgm (segs.map sgmR), .view kMrk marks, I q.x, I q.y, I q.z, I g.x, I g.y, I g.z, I gl, I item, I feed, I lead, I st.x, I st.y, I st.z, B true, I len, I s.speed, I mid] =
   some [.view kSgm ((addPt item feed lead (segs, len, at_) q).1.map sgmR), .view kMrk marks, I st.x, I st.y, I st.z, B true, I (addPt item feed lead (segs, len, at_) q).2.1, I s.speed, I mid])
  (hA0 : ∀ {q g st : Pt} {gl item feed lead len mid : Int}, MA [.view kSgm [], .view kMrk marks, I q.x, I q.y, I q.z, I g.x, I g.y, I g.z, I gl, I item, I feed, I lead, I st.x, I st.y, I st.z, B false, I len, I s.speed, I mid] =
   some [.view kSgm [], .view kMrk marks, I q.x, I q.y, I q.z, B true, I len, I s.speed, I mid]) :
  mf_path_builder_move MM MSm MA MP MG MR (loopC (st_path_builder_move_6 MM MSm MA MP MG MR)) [.view kSgm (s.segs.map sgmR), .view kMrk marks, .view kItm (items.map itmR), I i, I s.frm, I s.start.x, I s.start.y, I s.start.z, B s.begun, I s.len, I s.speed, I mid] =
   some [.view kSgm ((motM items i s mid).1.1.map sgmR), .view kMrk marks, B true, I (if s.begun = true then s.start else fine (itA items i).fr).x, I (if s.begun = true then s.start else fine (itA items i).fr).y, I (if s.begun = true then s.start else fine (itA items i).fr).z, B true, I (motM items i s mid).1.2.1, I s.speed, I (motM items i s mid).2] := by
 have hr := row_itA hi
 have hin : (0 : Int) <= (i : Int) /\ (i : Int) < (items.length : Int) := by omega
 have hsg := hok.segs
 have hln := hok.len
 -- the loop's answer, whatever the lead
 have hloop : ∀ lead feed : Int, loopC (st_path_builder_move_6 MM MSm MA MP MG MR) (.view kSgm (s.segs.map sgmR) :: .view kMrk marks :: .view kPt ((pointsP items i s.frm).map ptR) :: I (pointsP items i s.frm).length :: I (0 : Nat) :: (itmR (itA items i) ++ [I (⟨0, 0, 0⟩ : Pt).x, I (⟨0, 0, 0⟩ : Pt).y, I (⟨0, 0, 0⟩ : Pt).z, I 0, I i, I feed, I lead, I s.start.x, I s.start.y, I s.start.z, B s.begun, I s.len, I s.speed, I mid])) =
   some (1, [.view kSgm (((pointsP items i s.frm).foldl (stepM (itA items i) i feed lead) ((s.segs, s.len, if s.begun = true then s.at_ else fine (itA items i).fr), mid)).1.1.map sgmR), .view kMrk marks, I (if s.begun = true then s.start else fine (itA items i).fr).x, I (if s.begun = true then s.start else fine (itA items i).fr).y, I (if s.begun = true then s.start else fine (itA items i).fr).z, B true,
    I ((pointsP items i s.frm).foldl (stepM (itA items i) i feed lead) ((s.segs, s.len, if s.begun = true then s.at_ else fine (itA items i).fr), mid)).1.2.1, I s.speed, I ((pointsP items i s.frm).foldl (stepM (itA items i) i feed lead) ((s.segs, s.len, if s.begun = true then s.at_ else fine (itA items i).fr), mid)).2]) := by
  intro lead feed
  by_cases hb : s.begun = true
  ·obtain ⟨g1, g2⟩ := hinv.begun hb
   obtain ⟨g3, g4, g5⟩ := g2
   rw [if_pos hb, if_pos hb, hb]
   have := l_move (MP := MP) (MG := MG) (MR := MR) (g := ⟨0, 0, 0⟩) (gl := 0) (item := i) (feed := feed) (lead := lead) (by omega) g1 hpts.1 hM hC (fun h1 h2 h3 h4 h5 => hA h1 h2 h3 h4 h5) (pointsP items i s.frm).length 0 (s.segs, s.len, s.at_) mid (by omega) (by simp only; omega) hln.1 (by simp only; omega) (hok.at_ hb) g4
   rw [List.drop_zero] at this
   exact this
  ·have hb2 : s.begun = false := by simpa using hb
   obtain ⟨e1, e2, e3⟩ := hinv.empty hb2
   obtain ⟨l, hl⟩ := points_head hv
   have hfr : bd 67108864 (fine (itA items i).fr) := bd_mono (fine_bd hv.2.1) (by decide)
   rw [if_neg hb, if_neg hb, hb2, e1]
   rw [hfrm hb2, hl] at hpts ⊢
   have h0 : 0 < (fine (itA items i).fr :: l).length := by simp
   have hstep := st_move (MP := MP) (MG := MG) (MR := MR) h0 (by omega) hM hC (hA0 (q := fine (itA items i).fr) (g := ⟨0, 0, 0⟩) (st := s.start) (gl := 0) (item := i) (feed := feed) (lead := lead) (len := s.len) (mid := mid))
   rw [List.map_nil, loop_more hstep]
   have := l_move (MP := MP) (MG := MG) (MR := MR) (g := ⟨0, 0, 0⟩) (gl := 0) (item := i) (feed := feed) (lead := lead) (by omega) hfr hpts.1 hM hC (fun h1 h2 h3 h4 h5 => hA h1 h2 h3 h4 h5) l.length 1 ([], s.len, fine (itA items i).fr) (if smI (itA items i) /\ fine (itA items i).fr = centerP (itA items i) then s.len else mid) (by simp; omega) (by simp only [List.length_nil]; simp at hpts; omega) hln.1 (by simp only; simp at hpts; omega) hfr rfl
   rw [List.drop_succ_cons, List.drop_zero] at this
   rw [List.foldl_cons]
   have e4 : stepM (itA items i) i feed lead (([], s.len, fine (itA items i).fr), mid) (fine (itA items i).fr) = (([], s.len, fine (itA items i).fr), if smI (itA items i) /\ fine (itA items i).fr = centerP (itA items i) then s.len else mid) := by
    unfold stepM
    rw [show addPt i feed lead ([], s.len, fine (itA items i).fr) (fine (itA items i).fr) = ([], s.len, fine (itA items i).fr) from if_pos rfl]
   rw [e4]
   exact this
 have hcount : ∀ lead feed : Int, ((pointsP items i s.frm).foldl (stepM (itA items i) i feed lead) ((s.segs, s.len, if s.begun = true then s.at_ else fine (itA items i).fr), mid)).1.1.length <= 1048576 := by
  intro lead feed
  rw [stepM_fst]
  have hat : bd 67108864 (if s.begun = true then s.at_ else fine (itA items i).fr) := by
   split
   ·rename_i hb; exact hok.at_ hb
   ·exact bd_mono (fine_bd hv.2.1) (by decide)
  have := (fold_bd (item := i) (feed := feed) (lead := lead) (pointsP items i s.frm) (s.segs, s.len, if s.begun = true then s.at_ else fine (itA items i).fr) hpts.1 hat hln.1).1
  simp only at this ⊢
  omega
 generalize loopC (st_path_builder_move_6 MM MSm MA MP MG MR) = N at *
 have hlp := fun lead feed => hloop lead feed
 simp only [itmR, List.cons_append, List.nil_append] at hG hR hlp
 rw [mf_path_builder_move_eq]
 simp only [go_sem, List.length_map, Int.toNat_natCast, hr, if_pos hin, hG, hR, hP]
 have h00 : ((0 : Nat) : Int) = 0 := rfl
 simp only [h00] at hlp
 unfold motM leadI
 by_cases hs : syI (itA items i)
 ·have hf := hfeed hs
  rw [if_pos hs]
  simp only [if_pos hs]
  rw [wrap_id (by omega)]
  simp only [hlp, go_sem, List.length_map]
  rw [decide_eq_true (show ((_ : Nat) : Int) <= 1048576 from by have := hcount (mn ((itA items i).feed * 16) 16777216) (rate (itA items i) s.speed); omega)]
 ·rw [if_neg hs]
  simp only [if_neg hs]
  simp only [hlp, go_sem, List.length_map]
  rw [decide_eq_true (show ((_ : Nat) : Int) <= 1048576 from by have := hcount 0 (rate (itA items i) s.speed); omega)]
end Go.Bm
/- the program's path of up to 15 items, and what is settled of it -/
set_option maxRecDepth 100000
namespace Go.Bm
open Classical

theorem l_path_check {MK MV MN MS MM MC : List AC -> Option (List AC)} {items : List Itm} (hM : ∀ k : Int, MM [I k] = some [B (decide (1 <= k /\ k <= 6))]) (hW : ∀ it, MC (itmR it) = some [I (if wrongI it then 1 else 0)]) (hl : items.length <= 1000000) :
  ∀ (k i : Nat) (last : Int), i + k = items.length -> (last = -1 \/ (0 <= last /\ last < i)) ->
  (loopC (st_path_build_6 MK MV MN MS MM MC) [.view kSgm [], .view kMrk [], .view kItm (items.map itmR), I last, .view kItm (items.map itmR), I items.length, I i, I 0, I 0, I 0, B false, I 0, I 0, I 0] = some (1, [.view kSgm [], .view kMrk [], I (chkF items k i last), I 0, I 0, I 0, B false, I 0, I 0, I 0]) /\ chkF items k i last ≠ 0) \/
  (loopC (st_path_build_6 MK MV MN MS MM MC) [.view kSgm [], .view kMrk [], .view kItm (items.map itmR), I last, .view kItm (items.map itmR), I items.length, I i, I 0, I 0, I 0, B false, I 0, I 0, I 0] = some (2, [.view kSgm [], .view kMrk [], .view kItm (items.map itmR), I 0, I 0, I 0, B false, I 0, I 0, I 0]) /\ chkF items k i last = 0)
 | 0, i, last, hi, _ => by
  right
  refine ⟨loop_end ?_ (by simp), rfl⟩
  rw [st_path_build_6_eq, bif_neg (by omega)]
 | k + 1, i, last, hi, hla => by
  have hlt : i < items.length := by omega
  have hr := row_itA hlt
  have hw := hW (itA items i)
  have hm := hM (itA items i).kind
  have hin : (0 : Int) <= (i : Int) /\ (i : Int) < (items.length : Int) := by omega
  have hst : st_path_build_6 MK MV MN MS MM MC [.view kSgm [], .view kMrk [], .view kItm (items.map itmR), I last, .view kItm (items.map itmR), I items.length, I i, I 0, I 0, I 0, B false, I 0, I 0, I 0] =
    if wrongI (itA items i) then some (1, [.view kSgm [], .view kMrk [], I 1, I 0, I 0, I 0, B false, I 0, I 0, I 0]) else if motI (itA items i) then (if 0 <= last /\ (itA items last.toNat).to ≠ (itA items i).fr then some (1, [.view kSgm [], .view kMrk [], I 13, I 0, I 0, I 0, B false, I 0, I 0, I 0]) else some (0, [.view kSgm [], .view kMrk [], .view kItm (items.map itmR), I i, .view kItm (items.map itmR), I items.length, I (i + 1 : Nat), I 0, I 0, I 0, B false, I 0, I 0, I 0]))
    else some (0, [.view kSgm [], .view kMrk [], .view kItm (items.map itmR), I last, .view kItm (items.map itmR), I items.length, I (i + 1 : Nat), I 0, I 0, I 0, B false, I 0, I 0, I 0]) := by
   rw [st_path_build_6_eq]
   simp only [itmR] at hw
   simp only [go_sem, List.length_map, Int.toNat_natCast, hr, hw, hm, if_pos hin]
   rw [if_pos (by omega), wrap_id (by omega)]
   by_cases c1 : wrongI (itA items i)
   ·simp only [if_pos c1]
    rw [if_pos (by omega)]
   simp only [if_neg c1]
   rw [if_neg (by simp)]
   by_cases c2 : motI (itA items i)
   ·rw [if_neg (fun h => h c2), if_pos c2]
    rcases hla with rfl | ⟨h1, h2⟩
    ·rw [if_neg (show ¬ (-1 : Int) >= 0 by omega), if_neg (fun h => by omega)]; rfl
    ·obtain ⟨L, rfl⟩ := Int.eq_ofNat_of_zero_le h1
     have hL : L < items.length := by omega
     have hin2 : (0 : Int) <= (L : Int) /\ (L : Int) < (items.length : Int) := by omega
     have hr2 := row_itA hL
     simp only [Int.toNat_natCast, hr2, go_sem, if_pos hin2]
     rw [if_pos (by omega)]
     by_cases c3 : (itA items L).to = (itA items i).fr
     ·have c4 := pt_ext.1 c3
      rw [if_neg (fun h => h ⟨c4.1, c4.2.1, c4.2.2, trivial⟩), if_neg (fun h => h.2 c3)]; rfl
     ·rw [if_pos (fun h => c3 (pt_ext.2 ⟨h.1, h.2.1, h.2.2.1⟩)), if_pos ⟨h1, c3⟩]
   ·rw [if_pos (show ¬ (1 <= (itA items i).kind /\ (itA items i).kind <= 6) from c2), if_neg c2]; rfl
  unfold chkF
  by_cases c1 : wrongI (itA items i)
  ·rw [if_pos c1] at hst ⊢
   exact .inl ⟨loop_end hst (by simp), by simp⟩
  ·rw [if_neg c1] at hst ⊢
   by_cases c2 : motI (itA items i)
   ·rw [if_pos c2] at hst ⊢
    by_cases c3 : 0 <= last /\ (itA items last.toNat).to ≠ (itA items i).fr
    ·rw [if_pos c3] at hst ⊢
     exact .inl ⟨loop_end hst (by simp), by simp⟩
    ·rw [if_neg c3] at hst ⊢
     rw [loop_more hst]
     exact l_path_check hM hW hl k (i + 1) i (by omega) (.inr (by omega))
   ·rw [if_neg c2] at hst ⊢
    rw [loop_more hst]
    exact l_path_check hM hW hl k (i + 1) last (by omega) (by omega)

noncomputable def lastM (items : List Itm) : Nat -> Int
 | 0 => -1
 | i + 1 => if motI (itA items i) then i else lastM items i
theorem lastM_spec (items : List Itm) : ∀ i, lastM items i = -1 \/ ∃ L : Nat, lastM items i = L /\ L < i /\ motI (itA items L) /\ ∀ j, L < j -> j < i -> ¬ motI (itA items j)
 | 0 => .inl rfl
 | i + 1 => by
  unfold lastM
  by_cases c : motI (itA items i)
  ·rw [if_pos c]
   exact .inr ⟨i, rfl, by omega, c, fun j h1 h2 => by omega⟩
  ·rw [if_neg c]
   rcases lastM_spec items i with h | ⟨L, h1, h2, h3, h4⟩
   ·exact .inl h
   ·refine .inr ⟨L, h1, by omega, h3, fun j g1 g2 => ?_⟩
    by_cases e : j = i
    ·rw [e]; exact c
    ·exact h4 j g1 (by omega)
theorem frm_last (items : List Itm) : ∀ i, (buildN items i).frm = if 0 <= lastM items i /\ 0 <= softK items (lastM items i).toNat then lastM items i else -1
 | 0 => by rw [buildN, lastM, if_neg (by omega)]
 | i + 1 => by
  rw [buildN, lastM]
  unfold bStep
  by_cases c : motI (itA items i)
  ·rw [if_pos c, if_pos c]
   simp only [Int.toNat_natCast]
   by_cases c2 : 0 <= softK items i
   ·rw [if_pos c2, if_pos ⟨by omega, c2⟩]
   ·rw [if_neg c2, if_neg (fun h => c2 h.2)]
  ·rw [if_neg c, if_neg c]
   exact frm_last items i
theorem soft_here {items : List Itm} {i L : Nat} (hL : L < i) (hi : i < items.length) (hm : motI (itA items i)) (hno : ∀ j, L < j -> j < i -> ¬ motI (itA items j)) (hs : 0 <= softK items L) : nextN items L = i := by
 have h1 := soft_next hs
 rcases softK_spec items L with h | ⟨-, -, k, k1, k2, k3, k4, k5⟩
 ·omega
 ·have hk : nextN items L = k := by omega
  rw [hk]
  rcases Nat.lt_trichotomy k i with h | h | h
  ·exact absurd ⟨by have := k4.1; omega, by have := k4.1; omega⟩ (hno k k2 h)
  ·exact h
  ·have := k5 i hL h
   have := hm.2
   omega
noncomputable def midN (items : List Itm) : Nat -> Int
 | 0 => 0
 | i + 1 => if motI (itA items i) then (motM items i (buildN items i) (midN items i)).2 else midN items i
theorem frm_begun (items : List Itm) : ∀ i, (buildN items i).begun = false -> (buildN items i).frm = -1
 | 0, _ => by rw [buildN]
 | i + 1, h => by
  rw [buildN] at h ⊢
  unfold bStep at h ⊢
  by_cases c : motI (itA items i)
  ·rw [if_pos c] at h; cases h
  ·rw [if_neg c] at h ⊢
   exact frm_begun items i h
noncomputable abbrev pbR (items : List Itm) (i : Nat) : List AC :=
 [.view kSgm ((buildN items i).segs.map sgmR), .view kMrk ((buildN items i).marks.map mrkR), .view kItm (items.map itmR), I (lastM items i), .view kItm (items.map itmR), I items.length, I i, I (buildN items i).start.x, I (buildN items i).start.y, I (buildN items i).start.z, B (buildN items i).begun, I (buildN items i).len, I (buildN items i).speed, I (midN items i)]
theorem st_build18 {MK MV MN MS MM MC : List AC -> Option (List AC)} {N6 : List AC -> Option (Nat × List AC)} {items : List Itm} {i : Nat} (hi : i < items.length) (hlen : items.length <= 15) (hmk : (buildN items i).marks.length = i)
  (hM : ∀ k : Int, MM [I k] = some [B (decide (1 <= k /\ k <= 6))]) (hS : ∀ L : Nat, L < items.length -> MS [.view kItm (items.map itmR), I L] = some [B (decide (0 <= softK items L))]) (hN : ∀ L : Nat, L < items.length -> MN [.view kItm (items.map itmR), I L] = some [I (nextN items L)])
  (hV : motI (itA items i) -> MV [.view kSgm ((buildN items i).segs.map sgmR), .view kMrk ((buildN items i).marks.map mrkR), .view kItm (items.map itmR), I i, I (buildN items i).frm, I (buildN items i).start.x, I (buildN items i).start.y, I (buildN items i).start.z, B (buildN items i).begun, I (buildN items i).len, I (buildN items i).speed, I (midN items i)] =
   some [.view kSgm ((motM items i (buildN items i) (midN items i)).1.1.map sgmR), .view kMrk ((buildN items i).marks.map mrkR), B true, I (if (buildN items i).begun = true then (buildN items i).start else fine (itA items i).fr).x, I (if (buildN items i).begun = true then (buildN items i).start else fine (itA items i).fr).y, I (if (buildN items i).begun = true then (buildN items i).start else fine (itA items i).fr).z, B true,
    I (motM items i (buildN items i) (midN items i)).1.2.1, I (buildN items i).speed, I (motM items i (buildN items i) (midN items i)).2])
  (hK : ∀ {segs : List (List AC)} {st : Pt} {b : Bool} {len sp mid : Int}, MK [.view kSgm segs, .view kMrk ((buildN items i).marks.map mrkR), .view kItm (items.map itmR), I i, I st.x, I st.y, I st.z, B b, I len, I sp, I mid] =
   some [.view kSgm segs, .view kMrk (((buildN items i).marks ++ [(⟨len, markK items i, i⟩ : Mrk)]).map mrkR), I st.x, I st.y, I st.z, B b, I len, I sp, I mid]) :
  st_path_build_18 MK MV MN MS MM MC N6 (pbR items i) = some (0, pbR items (i + 1)) := by
 have hr := row_itA hi
 have hin : (0 : Int) <= (i : Int) /\ (i : Int) < (items.length : Int) := by omega
 have hw : IntKind.i64.wrap ((i : Int) + 1) = ((i + 1 : Nat) : Int) := by rw [wrap_id (by omega)]; omega
 have hf := frm_last items i
 have hls := lastM_spec items i
 have hfst := motM_fst items i (buildN items i) (midN items i)
 have e1 : lastM items (i + 1) = if motI (itA items i) then (i : Int) else lastM items i := rfl
 have e2 : midN items (i + 1) = if motI (itA items i) then (motM items i (buildN items i) (midN items i)).2 else midN items i := rfl
 have e3 : buildN items (i + 1) = bStep items i (buildN items i) := rfl
 unfold pbR
 rw [e1, e2, e3]
 generalize buildN items i = s at *
 generalize lastM items i = last at *
 generalize hmi : midN items i = mid at *
 unfold bStep
 rw [st_path_build_18_eq]
 by_cases hm : motI (itA items i)
 ·have h8 : ¬ (itA items i).kind = 8 := fun h => by have := hm.2; omega
  have hV := hV hm
  have hmk2 : markK items i = kindK items i := if_pos hm
  rw [if_pos hm, if_pos hm, if_pos hm]
  rw [hfst] at hV
  have hM2 : MM [I (itA items i).kind] = some [B true] := by rw [hM, decide_eq_true (show 1 <= (itA items i).kind /\ (itA items i).kind <= 6 from hm)]
  simp only [go_sem, List.length_map, Int.toNat_natCast, hr, if_pos hin, hM2]
  rw [if_pos (by omega), if_neg h8]
  have hbef : ∀ {x : Option (Nat × List AC)} {frm : Int}, s.frm = frm -> (MV [.view kSgm (s.segs.map sgmR), .view kMrk (s.marks.map mrkR), .view kItm (items.map itmR), I i, I frm, I s.start.x, I s.start.y, I s.start.z, B s.begun, I s.len, I s.speed, I mid]) =
    some [.view kSgm ((motS items i s).1.map sgmR), .view kMrk (s.marks.map mrkR), B true, I (if s.begun = true then s.start else fine (itA items i).fr).x, I (if s.begun = true then s.start else fine (itA items i).fr).y, I (if s.begun = true then s.start else fine (itA items i).fr).z, B true, I (motS items i s).2.1, I s.speed, I (motM items i s mid).2] := by
   intro x frm h; rw [<- h]; exact hV
  rcases hls with hls | ⟨L, h1, h2, h3, h4⟩
  ·rw [hls]
   rw [hls, if_neg (by omega)] at hf
   rw [if_neg (show ¬ (-1 : Int) >= 0 by omega)]
   have hv := hbef (x := none) hf
   simp only [hv, go_sem, hK, hw, hmk2]
   simp
  ·rw [h1] at hf ⊢
   rw [Int.toNat_natCast] at hf
   have hs := hS L (by omega)
   have hn := hN L (by omega)
   rw [if_pos (show (L : Int) >= 0 by omega)]
   by_cases c : 0 <= softK items L
   ·have hnx := soft_here h2 hi hm h4 c
    rw [if_pos ⟨by omega, c⟩] at hf
    rw [hnx] at hn
    rw [decide_eq_true c] at hs
    have hv := hbef (x := none) hf
    simp only [hs, hn, go_sem]
    simp only [hv, go_sem, hK, hw, hmk2]
    simp
   ·rw [if_neg (fun h => c h.2)] at hf
    rw [decide_eq_false c] at hs
    have hv := hbef (x := none) hf
    simp only [hs, go_sem]
    simp only [hv, go_sem, hK, hw, hmk2]
    simp
 ·have hmk2 : markK items i = otherK (itA items i) := if_neg hm
  rw [if_neg hm, if_neg hm, if_neg hm]
  have hM2 : MM [I (itA items i).kind] = some [B false] := by rw [hM, decide_eq_false (show ¬ (1 <= (itA items i).kind /\ (itA items i).kind <= 6) from hm)]
  unfold spdI
  simp only [go_sem, List.length_map, Int.toNat_natCast, hr, if_pos hin, hM2, hK, hw, hmk2]
  rw [if_pos (by omega)]
  by_cases h8 : (itA items i).kind = 8
  ·by_cases h3 : (itA items i).n = 3
   ·simp [h8, h3]
   ·by_cases h4 : (itA items i).n = 4
    ·simp [h8, h4]
    ·simp [h8, h3, h4]
  ·simp [h8]
end Go.Bm
/- positions of a path: its length, the segment and the point at a position -/
set_option maxRecDepth 100000
namespace Go.Bm
open Classical

def midP (a : Pt) (g : Sgm) (d : Int) : Pt := ⟨a.x + near ((g.to.x - a.x) * d) g.len, a.y + near ((g.to.y - a.y) * d) g.len, a.z + near ((g.to.z - a.z) * d) g.len⟩
def atL : Pt -> List Sgm -> Int -> Pt
 | a, [], _ => a
 | a, g :: l, s => if s < g.len then midP a g s else atL g.to l (s - g.len)
def atP (p : Pth) (s : Int) : Pt := atL p.start p.segs (max s 0)
def findL : List Sgm -> Int -> Nat × Int
 | [], s => (0, s)
 | [g], s => if s < g.len then (0, s) else (0, g.len)
 | g :: h :: l, s => if s < g.len then (0, s) else ((findL (h :: l) (s - g.len)).1 + 1, (findL (h :: l) (s - g.len)).2)
def vertL (a : Pt) (l : List Sgm) (i : Nat) : Pt := endOf a (l.take i)
def sg0 : Sgm := ⟨⟨0, 0, 0⟩, 0, 0, 0, 0⟩
def sgA (l : List Sgm) (i : Nat) : Sgm := l.getD i sg0
theorem sgA_get {l : List Sgm} {i : Nat} (h : i < l.length) : sgA l i = l[i] := by unfold sgA; simp [h]
theorem row_sgA {l : List Sgm} {i : Nat} (h : i < l.length) : nth [] (l.map sgmR) i = sgmR (sgA l i) := by rw [sgA_get h]; exact nth_map _ _ _ _ h
theorem sgA_mem {l : List Sgm} {i : Nat} (h : i < l.length) : sgA l i ∈ l := by rw [sgA_get h]; exact List.getElem_mem h
theorem vert_zero (a : Pt) (l : List Sgm) : vertL a l 0 = a := by unfold vertL; simp [endOf]
theorem vert_cons (a : Pt) (g : Sgm) (l : List Sgm) (i : Nat) : vertL a (g :: l) (i + 1) = vertL g.to l i := by unfold vertL; rw [List.take_succ_cons]; rfl
theorem sgA_cons (g : Sgm) (l : List Sgm) (i : Nat) : sgA (g :: l) (i + 1) = sgA l i := by unfold sgA; simp
theorem vert_succ : ∀ {l : List Sgm} {i : Nat} {a : Pt}, i < l.length -> vertL a l (i + 1) = (sgA l i).to
 | g :: l, 0, a, _ => by rw [vert_cons, vert_zero]; rfl
 | g :: l, i + 1, a, h => by rw [vert_cons, sgA_cons]; exact vert_succ (by simpa using h)
theorem near_full {x n : Int} (hn : 0 < n) : near (x * n) n = x := near_mul hn
theorem mid_full {a : Pt} {g : Sgm} (h : 0 < g.len) : midP a g g.len = g.to := by
 unfold midP
 rw [near_full h, near_full h, near_full h]
 rw [pt_ext]
 exact ⟨by simp only; omega, by simp only; omega, by simp only; omega⟩
theorem mid_zero {a : Pt} {g : Sgm} (h : 0 < g.len) : midP a g 0 = a := by
 unfold midP
 have e : near 0 g.len = 0 := near_of h (by omega) (by omega)
 rw [Int.mul_zero, Int.mul_zero, Int.mul_zero, e]
 rw [pt_ext]
 exact ⟨by simp, by simp, by simp⟩
theorem atL_zero {a : Pt} {l : List Sgm} (h : ∀ g ∈ l, 1 <= g.len) : atL a l 0 = a := by
 cases l with
 | nil => rfl
 | cons g l =>
  have := h g (by simp)
  unfold atL
  rw [if_pos (by omega), mid_zero (by omega)]
theorem find_at : ∀ {l : List Sgm} {a : Pt} {s : Int}, l ≠ [] -> (∀ g ∈ l, 1 <= g.len) -> 0 <= s ->
  (findL l s).1 < l.length /\ 0 <= (findL l s).2 /\ (findL l s).2 <= (sgA l (findL l s).1).len /\ atL a l s = midP (vertL a l (findL l s).1) (sgA l (findL l s).1) (findL l s).2
 | [], _, _, h, _, _ => absurd rfl h
 | [g], a, s, _, hg, hs => by
  have h1 := hg g (by simp)
  unfold findL
  by_cases c : s < g.len
  ·rw [if_pos c]
   refine ⟨by simp, hs, by show s <= g.len; omega, ?_⟩
   unfold atL
   rw [if_pos c, vert_zero]; rfl
  ·rw [if_neg c]
   refine ⟨by simp, by simp only; omega, Int.le_refl _, ?_⟩
   unfold atL
   rw [if_neg c, vert_zero]
   show atL g.to [] _ = midP a g g.len
   rw [mid_full (by omega)]; rfl
 | g :: h :: l, a, s, _, hg, hs => by
  have h1 := hg g (by simp)
  unfold findL
  by_cases c : s < g.len
  ·rw [if_pos c]
   refine ⟨by simp, hs, by show s <= g.len; omega, ?_⟩
   unfold atL
   rw [if_pos c, vert_zero]; rfl
  ·rw [if_neg c]
   obtain ⟨k1, k2, k3, k4⟩ := find_at (l := h :: l) (a := g.to) (s := s - g.len) (by simp) (fun k hk => hg k (by simp at hk ⊢; exact .inr hk)) (by omega)
   refine ⟨by simp at k1 ⊢; omega, k2, ?_, ?_⟩
   ·simp only [sgA_cons]; exact k3
   ·rw [show atL a (g :: h :: l) s = atL g.to (h :: l) (s - g.len) from by rw [atL, if_neg c]]
    simp only [vert_cons, sgA_cons]
    exact k4
theorem near_bd {x n : Int} {A : Nat} (hn : 0 < n) (h : -(A * n) <= x /\ x <= A * n) : (near x n).natAbs <= A := by
 have m1 := near_mono hn h.2
 have m2 := near_mono hn h.1
 rw [show -((A : Int) * n) = -(A : Int) * n by rw [Int.neg_mul]] at m2
 rw [near_mul hn] at m1 m2
 omega
theorem mid_bd2 {D L d : Int} (hL : 0 < L) (hD : D.natAbs <= 134217728) (hd : 0 <= d /\ d <= L) : (near (D * d) L).natAbs <= 134217728 := by
 refine near_bd hL ?_
 have h1 : D * d <= 134217728 * d := Int.mul_le_mul_of_nonneg_right (by omega) hd.1
 have h2 : -134217728 * d <= D * d := Int.mul_le_mul_of_nonneg_right (by omega) hd.1
 have e : ((134217728 : Nat) : Int) = 134217728 := rfl
 rw [e]
 omega
structure SegOK (l : List Sgm) : Prop where
 seg : ∀ g ∈ l, 1 <= g.len /\ g.len <= 268435456 /\ bd B26 g.to
 count : l.length <= 983055
theorem GoodPath.ok {p : Pth} (h : GoodPath p) : SegOK p.segs := ⟨good_len h.start h.segs, h.count⟩
theorem vert_bd {a : Pt} {l : List Sgm} (ha : bd B26 a) (h : SegOK l) {i : Nat} (hi : i < l.length) : bd B26 (vertL a l i) := by
 cases i with
 | zero => rw [vert_zero]; exact ha
 | succ i => rw [vert_succ (by omega)]; exact (h.seg _ (sgA_mem (by omega))).2.2

theorem l_path_Length {l : List Sgm} (h : SegOK l) : ∀ (k i : Nat) (v : Int), i + k = l.length -> 0 <= v -> v + k * 268435456 <= 4000000000000000000 ->
  loopC st_path_Length_3 [I v, .view kSgm (l.map sgmR), I l.length, I i] = some (1, [I (v + sumLen (l.drop i))])
 | 0, i, v, hi, _, _ => by
  refine loop_end ?_ (by simp)
  rw [st_path_Length_3_eq, bif_neg (by omega), List.drop_of_length_le (by omega)]
  simp [sumLen]
 | k + 1, i, v, hi, h0, h1 => by
  have hlt : i < l.length := by omega
  have hcn := h.count
  have hg := h.seg _ (sgA_mem hlt)
  have hst : st_path_Length_3 [I v, .view kSgm (l.map sgmR), I l.length, I i] = some (0, [I (v + (sgA l i).len), .view kSgm (l.map sgmR), I l.length, I (i + 1 : Nat)]) := by
   rw [st_path_Length_3_eq]
   simp only [go_sem, List.length_map, Int.toNat_natCast, row_sgA hlt]
   rw [if_pos (by omega), if_pos (by omega), wrap_id (x := v + _) (by omega), wrap_id (by omega)]
   rfl
  rw [loop_more hst, l_path_Length h k (i + 1) _ (by omega) (by omega) (by omega)]
  have e : l.drop i = sgA l i :: l.drop (i + 1) := by rw [sgA_get hlt]; exact getElem_take_drop _ _ hlt
  rw [e]
  simp only [sumLen, Int.add_assoc]
theorem s_path_Length {p : Pth} (h : SegOK p.segs) : m_path_Length (pthR p) = some [I (sumLen p.segs)] := by
 have hl := l_path_Length h p.segs.length 0 0 (by omega) (by omega) (by have := h.count; omega)
 have hl' : l_path_Length_3 [I 0, .view kSgm (p.segs.map sgmR), I p.segs.length, I 0] = some (1, [I (0 + sumLen (p.segs.drop 0))]) := hl
 rw [List.drop_zero, Int.zero_add] at hl'
 unfold m_path_Length
 generalize l_path_Length_3 = N at *
 rw [mf_path_Length_eq]
 simp only [go_sem, List.length_map, hl']
theorem findL_step {g h : Sgm} {l : List Sgm} {s : Int} (c : ¬ s < g.len) : findL (g :: h :: l) s = ((findL (h :: l) (s - g.len)).1 + 1, (findL (h :: l) (s - g.len)).2) := by rw [findL, if_neg c]
theorem l_path_Find {p : Pth} (h : SegOK p.segs) : ∀ (k i : Nat) (s : Int), i + k = p.segs.length -> 1 <= k -> 0 <= s /\ s <= 9223372036854775807 ->
  loopC st_path_Find_3 (I s :: .view kSgm (p.segs.map sgmR) :: I p.segs.length :: I i :: pthR p) = some (1, [I (i + (findL (p.segs.drop i) s).1 : Nat), I (findL (p.segs.drop i) s).2])
 | k + 1, i, s, hi, _, hs => by
  have hlt : i < p.segs.length := by omega
  have hcnt := h.count
  have hg := h.seg _ (sgA_mem hlt)
  have e : p.segs.drop i = sgA p.segs i :: p.segs.drop (i + 1) := by rw [sgA_get hlt]; exact getElem_take_drop _ _ hlt
  have hst : st_path_Find_3 (I s :: .view kSgm (p.segs.map sgmR) :: I p.segs.length :: I i :: pthR p) = if s < (sgA p.segs i).len then some (1, [I i, I s]) else if k = 0 then some (1, [I i, I (sgA p.segs i).len]) else some (0, I (s - (sgA p.segs i).len) :: .view kSgm (p.segs.map sgmR) :: I p.segs.length :: I (i + 1 : Nat) :: pthR p) := by
   rw [st_path_Find_3_eq]
   simp only [go_sem, List.length_map, Int.toNat_natCast, row_sgA hlt]
   rw [if_pos (by omega), if_pos (by omega), wrap_id (x := (p.segs.length : Int) - 1) (by omega), wrap_id (x := (i : Int) + 1) (by omega)]
   by_cases c : s < (sgA p.segs i).len
   ·rw [if_pos c, if_pos c]
   ·rw [if_neg c, if_neg c]
    by_cases c2 : k = 0
    ·rw [if_pos (by omega), if_pos c2]
    ·rw [if_neg (by omega), if_neg c2, wrap_id (by omega)]; rfl
  by_cases c : s < (sgA p.segs i).len
  ·rw [if_pos c] at hst
   rw [loop_end hst (by simp), e]
   cases p.segs.drop (i + 1) with
   | nil => rw [findL, if_pos c]; rfl
   | cons b l => rw [findL, if_pos c]; rfl
  ·rw [if_neg c] at hst
   by_cases c2 : k = 0
   ·rw [if_pos c2] at hst
    rw [loop_end hst (by simp), e, List.drop_of_length_le (by omega), findL, if_neg c]; rfl
   ·rw [if_neg c2] at hst
    rw [loop_more hst, l_path_Find h k (i + 1) _ (by omega) (by omega) (by omega), e]
    have e2 : p.segs.drop (i + 1) = sgA p.segs (i + 1) :: p.segs.drop (i + 1 + 1) := by rw [sgA_get (show i + 1 < p.segs.length by omega)]; exact getElem_take_drop _ _ (by omega)
    rw [e2, findL_step c, <- e2]
    simp only
    rw [show i + 1 + (findL (p.segs.drop (i + 1)) (s - (sgA p.segs i).len)).1 = i + ((findL (p.segs.drop (i + 1)) (s - (sgA p.segs i).len)).1 + 1) by omega]
theorem s_path_Find {p : Pth} (h : SegOK p.segs) {s : Int} (hs : i64 s) : m_path_Find (pthR p ++ [I s]) = if p.segs = [] then some [I (-1), I 0] else some [I (findL p.segs (max s 0)).1, I (findL p.segs (max s 0)).2] := by
 unfold i64 at hs
 have hmx : mx s 0 = max s 0 := mx_max' s 0
 by_cases c : p.segs = []
 ·rw [if_pos c]
  have hend : l_path_Find_3 (I (max s 0) :: .view kSgm [] :: I 0 :: I 0 :: pthR p) = some (2, []) := by
   refine loop_end ?_ (by simp)
   rw [st_path_Find_3_eq, bif_neg (by omega)]
  unfold m_path_Find
  generalize l_path_Find_3 = N at *
  have he := mf_path_Find_eq N p.start.x p.start.y p.start.z (p.segs.map sgmR) (p.marks.map mrkR) s
  refine Eq.trans he ?_
  rw [hmx, c]
  have hend' : N [I (max s 0), .view kSgm [], I 0, I 0, I p.start.x, I p.start.y, I p.start.z, .view kSgm [], .view kMrk (p.marks.map mrkR)] = some (2, []) := by
   have := hend
   unfold pthR at this
   rw [c] at this
   exact this
  simp only [go_sem, List.map_nil, List.length_nil]
  simp only [Int.natCast_zero]
  rw [hend']
  simp
 ·rw [if_neg c]
  have hpos : 0 < p.segs.length := by
   cases hh : p.segs with
   | nil => exact absurd hh c
   | cons _ _ => simp
  have hL := l_path_Find h p.segs.length 0 (max s 0) (by omega) (by omega) (by omega)
  have hL' : l_path_Find_3 [I (max s 0), .view kSgm (p.segs.map sgmR), I p.segs.length, I 0, I p.start.x, I p.start.y, I p.start.z, .view kSgm (p.segs.map sgmR), .view kMrk (p.marks.map mrkR)] = some (1, [I (0 + (findL (p.segs.drop 0) (max s 0)).1 : Nat), I (findL (p.segs.drop 0) (max s 0)).2]) := hL
  rw [List.drop_zero, Nat.zero_add] at hL'
  unfold m_path_Find
  generalize l_path_Find_3 = N at *
  have he := mf_path_Find_eq N p.start.x p.start.y p.start.z (p.segs.map sgmR) (p.marks.map mrkR) s
  refine Eq.trans he ?_
  rw [hmx]
  simp only [go_sem, List.length_map, hL']
where mx_max' (a b : Int) : mx a b = max a b := by unfold mx; rw [Int.max_def]; split <;> split <;> omega
theorem a_path_At {MM MF : List AC -> Option (List AC)} {p : Pth} (h : GoodPath p) {s : Int} (hF : MF (pthR p ++ [I s]) = if p.segs = [] then some [I (-1), I 0] else some [I (findL p.segs (max s 0)).1, I (findL p.segs (max s 0)).2])
  (hM : ∀ {a b c : Int}, a.natAbs <= 134217728 -> b.natAbs <= 268435456 -> (0 < c /\ c <= 268435456) -> MM [I a, I b, I c, I 2] = some [I (near (a * b) c), B true]) :
  mf_path_At MM MF (pthR p ++ [I s]) = some (ptR (atP p s)) := by
 have he := mf_path_At_eq (M_wide_MulDiv := MM) (M_path_Find := MF) p.start.x p.start.y p.start.z (p.segs.map sgmR) (p.marks.map mrkR) s
 refine Eq.trans he ?_
 simp only [List.cons_append, List.nil_append, pthR] at hF
 unfold atP
 by_cases c : p.segs = []
 ·rw [if_pos c] at hF
  simp only [hF, go_sem]
  rw [if_pos (by omega), c]; rfl
 ·rw [if_neg c] at hF
  have hok := h.ok
  obtain ⟨f1, f2, f3, f4⟩ := find_at (l := p.segs) (a := p.start) (s := max s 0) c (fun g hg => (hok.seg g hg).1) (by omega)
  rw [f4]
  have hg := hok.seg _ (sgA_mem f1)
  have hv := vert_bd h.start hok f1
  have hr := row_sgA f1
  have hcnt := hok.count
  generalize (findL p.segs (max s 0)).1 = i at *
  generalize (findL p.segs (max s 0)).2 = d at *
  have hdn : d.natAbs <= 268435456 := by omega
  have fin : ∀ {a : Pt}, bd B26 a -> (MM [I (IntKind.i64.wrap ((sgA p.segs i).to.x - a.x)), I d, I (sgA p.segs i).len, I 2] = some [I (near (((sgA p.segs i).to.x - a.x) * d) (sgA p.segs i).len), B true] /\ IntKind.i64.wrap (a.x + near (((sgA p.segs i).to.x - a.x) * d) (sgA p.segs i).len) = a.x + near (((sgA p.segs i).to.x - a.x) * d) (sgA p.segs i).len) /\
    (MM [I (IntKind.i64.wrap ((sgA p.segs i).to.y - a.y)), I d, I (sgA p.segs i).len, I 2] = some [I (near (((sgA p.segs i).to.y - a.y) * d) (sgA p.segs i).len), B true] /\ IntKind.i64.wrap (a.y + near (((sgA p.segs i).to.y - a.y) * d) (sgA p.segs i).len) = a.y + near (((sgA p.segs i).to.y - a.y) * d) (sgA p.segs i).len) /\
    (MM [I (IntKind.i64.wrap ((sgA p.segs i).to.z - a.z)), I d, I (sgA p.segs i).len, I 2] = some [I (near (((sgA p.segs i).to.z - a.z) * d) (sgA p.segs i).len), B true] /\ IntKind.i64.wrap (a.z + near (((sgA p.segs i).to.z - a.z) * d) (sgA p.segs i).len) = a.z + near (((sgA p.segs i).to.z - a.z) * d) (sgA p.segs i).len) := by
   intro a ha
   have key : ∀ u v : Int, u.natAbs <= B26 -> v.natAbs <= B26 -> MM [I (IntKind.i64.wrap (u - v)), I d, I (sgA p.segs i).len, I 2] = some [I (near ((u - v) * d) (sgA p.segs i).len), B true] /\ IntKind.i64.wrap (v + near ((u - v) * d) (sgA p.segs i).len) = v + near ((u - v) * d) (sgA p.segs i).len := by
    intro u v hu hv
    have h1 := sub_nat hu hv
    rw [wrap_nat h1 (by decide)]
    refine ⟨hM (Nat.le_trans h1 (by decide)) hdn (by omega), ?_⟩
    exact wrap_nat (add_nat hv (mid_bd2 (by omega) (Nat.le_trans h1 (by decide)) ⟨f2, f3⟩)) (by decide)
   exact ⟨key _ _ hg.2.2.1 ha.1, key _ _ hg.2.2.2.1 ha.2.1, key _ _ hg.2.2.2.2 ha.2.2⟩
  have hin : (0 : Int) <= (i : Int) /\ (i : Int) < (p.segs.length : Int) := by omega
  simp only [hF, go_sem, List.length_map, Int.toNat_natCast, hr, if_pos hin]
  rw [if_neg (by omega)]
  by_cases c0 : i = 0
  ·subst c0
   obtain ⟨⟨m1, w1⟩, ⟨m2, w2⟩, m3, w3⟩ := fin h.start
   rw [if_neg (by omega), vert_zero]
   simp only [m1, m2, m3, go_sem, w1, w2, w3]
   rfl
  ·obtain ⟨j, rfl⟩ : ∃ j, i = j + 1 := ⟨i - 1, by omega⟩
   have hj := row_sgA (l := p.segs) (i := j) (by omega)
   have hgj := hok.seg _ (sgA_mem (l := p.segs) (i := j) (by omega))
   obtain ⟨⟨m1, w1⟩, ⟨m2, w2⟩, m3, w3⟩ := fin hgj.2.2
   rw [if_pos (by omega), vert_succ (by omega)]
   have e1 : IntKind.i64.wrap (((j + 1 : Nat) : Int) - 1) = (j : Int) := by rw [wrap_id (by omega)]; omega
   rw [e1]
   simp only [Int.toNat_natCast, hj, go_sem]
   rw [if_pos (by omega)]
   simp only [m1, m2, m3, go_sem, w1, w2, w3]
   rfl
theorem s_MulDivA {a b c : Int} (ha : a.natAbs <= 134217728) (hb : b.natAbs <= 268435456) (hc : 0 < c /\ c <= 268435456) : m_wide_MulDiv [I a, I b, I c, I 2] = some [I (near (a * b) c), B true] := by
 have := Nat.mul_le_mul ha hb
 exact s_wide_MulDiv (by unfold i64; omega) (by unfold i64; omega) (by omega) (by omega)
theorem s_path_At {p : Pth} (h : GoodPath p) {s : Int} (hs : i64 s) : m_path_At (pthR p ++ [I s]) = some (ptR (atP p s)) :=
 a_path_At h (s_path_Find h.ok hs) s_MulDivA
end Go.Bm
/- the program builds the reference's path, and what is settled of it -/
set_option maxRecDepth 100000
namespace Go.Bm
open Classical

theorem s_path_RateM {it : Itm} {speed : Int} (hf : it.kind = 1 \/ 1 <= it.feed /\ it.feed <= 60000000) (hs : 0 <= speed /\ speed <= 30000) : m_path_Rate (itmR it ++ [I speed]) = some [I (rate it speed)] := by
 by_cases h1 : it.kind = 1
 ·unfold m_path_Rate rate
  generalize m_wide_MulDiv = M
  have h := mf_path_Rate_eq (M_wide_MulDiv := M) it.kind it.block it.fr.x it.fr.y it.fr.z it.to.x it.to.y it.to.z it.plane it.ce.x it.ce.y it.ce.z it.dir it.full it.feed it.perRev it.side it.radius it.blend it.n it.speed it.on speed
  rw [if_pos h1]
  refine Eq.trans h ?_
  rw [bif_true (by simp [h1])]
 ·exact s_path_Rate (by omega) hs
theorem s_path_add {segs : List Sgm} {marks : List (List AC)} {q g st at_ : Pt} {gl item feed lead len sp mid : Int} (hat : endOf st segs = at_) (h1 : bd 67108864 at_) (h2 : bd 67108864 q) (hs : segs.length + 1 <= 1048577) (hlen : 0 <= len /\ len <= 4000000000000000000) :
  m_path_builder_add [.view kSgm (segs.map sgmR), .view kMrk marks, I q.x, I q.y, I q.z, I g.x, I g.y, I g.z, I gl, I item, I feed, I lead, I st.x, I st.y, I st.z, B true, I len, I sp, I mid] =
   some [.view kSgm ((addPt item feed lead (segs, len, at_) q).1.map sgmR), .view kMrk marks, I st.x, I st.y, I st.z, B true, I (addPt item feed lead (segs, len, at_) q).2.1, I sp, I mid] :=
 a_path_add hat (s_curve_Length h1 h2) (len_bd h1 h2) hs hlen
theorem step_18 {items : List Itm} (hlen : items.length <= 15) (hright : ∀ j < items.length, ¬ wrongI (itA items j)) {i : Nat} (hi : i < items.length) :
  st_path_build_18 m_path_builder_mark m_path_builder_move m_path_next m_path_soft m_path_motion m_path_check l_path_build_6 (pbR items i) = some (0, pbR items (i + 1)) := by
 have hb := buildN_ok hright i (by omega)
 have hin := buildN_inv hright i (by omega)
 have hall : ∀ k < items.length, motI (itA items k) -> drawn (itA items k) := fun k hk hm => (right_mot (hright k hk) hm).1
 have hrm := right_mot (hright i hi)
 refine st_build18 hi hlen hb.marks s_path_motion (fun L hL => s_path_soft (by omega) hL) (fun L hL => s_path_next (by omega) hL) (fun hm => ?_) (s_path_mark (by omega) hi (by have := hb.marks; omega))
 have hd := (hrm hm).1
 exact a_path_move hi hlen hd.1 hb hin (points_bd hd hb.frm hall) (fun hs => by have h2 := (hrm hm).2; rcases hs with h | h <;> omega) (frm_begun items i) (s_path_smooth _) (s_path_middle hd.1.2.1 hd.1.2.2.1) (s_path_geared _) (s_path_RateM (hrm hm).2 hb.speed)
  (s_path_points (by omega) hi hd hb.frm hall) (fun h1 h2 h3 h4 h5 => s_path_add h1 h2 h3 h4 h5) a_path_add0
theorem loop_18 {items : List Itm} (hlen : items.length <= 15) (hright : ∀ j < items.length, ¬ wrongI (itA items j)) : ∀ (k i : Nat), i + k = items.length ->
  loopC (st_path_build_18 m_path_builder_mark m_path_builder_move m_path_next m_path_soft m_path_motion m_path_check l_path_build_6) (pbR items i) =
   some (2, [.view kSgm ((pathP items).segs.map sgmR), .view kMrk ((pathP items).marks.map mrkR), I (pathP items).start.x, I (pathP items).start.y, I (pathP items).start.z, B (buildN items items.length).begun, I (buildN items items.length).len, I (buildN items items.length).speed, I (midN items items.length)])
 | 0, i, hi => by
  obtain rfl : i = items.length := by omega
  refine loop_end ?_ (by simp)
  unfold pbR pathP
  rw [st_path_build_18_eq, bif_neg (by omega)]
 | k + 1, i, hi => by
  rw [loop_more (step_18 hlen hright (by omega))]
  exact loop_18 hlen hright k (i + 1) (by omega)
def builtR (items : List Itm) (o : List AC) : Prop :=
 if checkP items = 0 then o = [.view kSgm ((pathP items).segs.map sgmR), .view kMrk ((pathP items).marks.map mrkR), I 0, I (pathP items).start.x, I (pathP items).start.y, I (pathP items).start.z, B (buildN items items.length).begun, I (buildN items items.length).len, I (buildN items items.length).speed, I (midN items items.length)]
 else o = [.view kSgm [], .view kMrk [], I (checkP items), I 0, I 0, I 0, B false, I 0, I 0, I 0]
theorem a_path_build {MK MV MN MS MM MC : List AC -> Option (List AC)} {N6 N18 : List AC -> Option (Nat × List AC)} {items : List Itm} (hlen : items.length <= 15)
  (h6 : (N6 [.view kSgm [], .view kMrk [], .view kItm (items.map itmR), I (-1), .view kItm (items.map itmR), I items.length, I 0, I 0, I 0, I 0, B false, I 0, I 0, I 0] = some (1, [.view kSgm [], .view kMrk [], I (checkP items), I 0, I 0, I 0, B false, I 0, I 0, I 0]) /\ checkP items ≠ 0) \/
   (N6 [.view kSgm [], .view kMrk [], .view kItm (items.map itmR), I (-1), .view kItm (items.map itmR), I items.length, I 0, I 0, I 0, I 0, B false, I 0, I 0, I 0] = some (2, [.view kSgm [], .view kMrk [], .view kItm (items.map itmR), I 0, I 0, I 0, B false, I 0, I 0, I 0]) /\ checkP items = 0))
  (h18 : checkP items = 0 -> N18 [.view kSgm [], .view kMrk [], .view kItm (items.map itmR), I (-1), .view kItm (items.map itmR), I items.length, I 0, I 0, I 0, I 0, B false, I 0, I 0, I 0] =
   some (2, [.view kSgm ((pathP items).segs.map sgmR), .view kMrk ((pathP items).marks.map mrkR), I (pathP items).start.x, I (pathP items).start.y, I (pathP items).start.z, B (buildN items items.length).begun, I (buildN items items.length).len, I (buildN items items.length).speed, I (midN items items.length)])) :
  ∃ o, mf_path_build MK MV MN MS MM MC N6 N18 [.view kItm (items.map itmR)] = some o /\ builtR items o := by
 rw [mf_path_build_eq]
 have hin : ¬ ((items.length : Int) > 20000) := by omega
 rcases h6 with ⟨h, hc⟩ | ⟨h, hc⟩
 ·simp only [go_sem, List.length_map, h, if_neg hin]
  exact ⟨_, rfl, by unfold builtR; rw [if_neg hc]⟩
 ·have g := h18 hc
  simp only [go_sem, List.length_map, h, if_neg hin, g]
  rw [if_neg (by decide), if_neg (by decide)]
  exact ⟨_, rfl, by unfold builtR; rw [if_pos hc]⟩
theorem s_path_build {items : List Itm} (hlen : items.length <= 15) : ∃ o, m_path_build [.view kItm (items.map itmR)] = some o /\ builtR items o := by
 have hc : checkP items = chkF items items.length 0 (-1) := by unfold checkP; rw [if_neg (by omega)]
 refine a_path_build hlen ?_ fun he => loop_18 hlen (check_right he).2 items.length 0 (by omega)
 rw [hc]
 exact l_path_check s_path_motion s_path_check (by omega) items.length 0 (-1) (by omega) (.inl rfl)
theorem a_path_Build {MB : List AC -> Option (List AC)} {items : List Itm} (h : ∃ o, MB [.view kItm (items.map itmR)] = some o /\ builtR items o) :
  mf_path_Build MB [.view kItm (items.map itmR)] = if checkP items = 0 then some (pthR (pathP items) ++ [I 0]) else some [I 0, I 0, I 0, .view kSgm [], .view kMrk [], I (checkP items)] := by
 obtain ⟨o, h1, h2⟩ := h
 rw [mf_path_Build_eq, h1]
 unfold builtR at h2
 by_cases c : checkP items = 0
 ·rw [if_pos c] at h2 ⊢
  subst h2
  simp only [go_sem]
  rw [if_neg (by simp)]
  rfl
 ·rw [if_neg c] at h2 ⊢
  subst h2
  simp only [go_sem]
  rw [if_pos c]
theorem s_path_Build {items : List Itm} (hlen : items.length <= 15) : m_path_Build [.view kItm (items.map itmR)] = if checkP items = 0 then some (pthR (pathP items) ++ [I 0]) else some [I 0, I 0, I 0, .view kSgm [], .view kMrk [], I (checkP items)] :=
 a_path_Build (s_path_build hlen)
end Go.Bm
