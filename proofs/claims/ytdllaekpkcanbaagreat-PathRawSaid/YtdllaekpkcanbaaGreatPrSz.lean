/- laid together -/
import Derived.Test.YtdllaekpkcanbaaGreatPrPe
import Derived.Test.YtdllaekpkcanbaaGreatPrRt
import Derived.Test.YtdllaekpkcanbaaGreatMx5
import Derived.Test.YtdllaekpkcanbaaGreatPrV2
import Derived.Test.YtdllaekpkcanbaaGreatPrBd
set_option linter.unusedVariables false
set_option linter.unusedSimpArgs false
/- the program's path of up to 15 items, and what is settled of it -/
set_option maxRecDepth 100000
namespace Go.Bm
open Classical

theorem l_path_check {MK MV MN MS MM MC : List AC -> Option (List AC)} {items : List Itm} (hM : ∀ k : Int, MM [I k] = some [B (decide (1 <= k /\ k <= 6))]) (hW : ∀ it, MC (itmR it) = some [I (if Qf4 it then 1 else 0)]) (hl : items.length <= 1000000) :
  ∀ (k i : Nat) (last : Int), i + k = items.length -> (last = -1 \/ (0 <= last /\ last < i)) ->
  (Qbl (st_path_build_6 MK MV MN MS MM MC) [.view kSgm [], .view kMrk [], .view kItm (items.map itmR), I last, .view kItm (items.map itmR), I items.length, I i, I 0, I 0, I 0, B false, I 0, I 0, I 0] = some (1, [.view kSgm [], .view kMrk [], I (chkF items k i last), I 0, I 0, I 0, B false, I 0, I 0, I 0]) /\ chkF items k i last ≠ 0) \/
  (Qbl (st_path_build_6 MK MV MN MS MM MC) [.view kSgm [], .view kMrk [], .view kItm (items.map itmR), I last, .view kItm (items.map itmR), I items.length, I i, I 0, I 0, I 0, B false, I 0, I 0, I 0] = some (2, [.view kSgm [], .view kMrk [], .view kItm (items.map itmR), I 0, I 0, I 0, B false, I 0, I 0, I 0]) /\ chkF items k i last = 0)
 | 0, i, last, hi, _ => by
  right
  refine ⟨Qbn ?_ (by simp), rfl⟩
  rw [st_path_build_6_eq, Qcs (by omega)]
 | k + 1, i, last, hi, hla => by
  have hlt : i < items.length := by omega
  have hr := Qgb hlt
  have hw := hW (itA items i)
  have hm := hM (itA items i).kind
  have hin : (0 : Int) <= (i : Int) /\ (i : Int) < (items.length : Int) := by omega
  have hst : st_path_build_6 MK MV MN MS MM MC [.view kSgm [], .view kMrk [], .view kItm (items.map itmR), I last, .view kItm (items.map itmR), I items.length, I i, I 0, I 0, I 0, B false, I 0, I 0, I 0] =
    if Qf4 (itA items i) then some (1, [.view kSgm [], .view kMrk [], I 1, I 0, I 0, I 0, B false, I 0, I 0, I 0]) else if motI (itA items i) then (if 0 <= last /\ (itA items last.toNat).to ≠ (itA items i).fr then some (1, [.view kSgm [], .view kMrk [], I 13, I 0, I 0, I 0, B false, I 0, I 0, I 0]) else some (0, [.view kSgm [], .view kMrk [], .view kItm (items.map itmR), I i, .view kItm (items.map itmR), I items.length, I (i + 1 : Nat), I 0, I 0, I 0, B false, I 0, I 0, I 0]))
    else some (0, [.view kSgm [], .view kMrk [], .view kItm (items.map itmR), I last, .view kItm (items.map itmR), I items.length, I (i + 1 : Nat), I 0, I 0, I 0, B false, I 0, I 0, I 0]) := by
   rw [st_path_build_6_eq]
   simp only [itmR] at hw
   simp only [go_sem, List.length_map, Int.toNat_natCast, hr, hw, hm, if_pos hin]
   rw [if_pos (by omega), Qab (by omega)]
   by_cases c1 : Qf4 (itA items i)
   ·simp only [if_pos c1]
    rw [if_pos (by omega)]
   simp only [if_neg c1]
   rw [if_neg (by simp)]
   by_cases c2 : motI (itA items i)
   ·rw [if_neg (fun h => h c2), if_pos c2]
    rcases hla with rfl | ⟨h1, h2⟩
    ·rw [if_neg (show ¬ (-1 : Int) >= 0 by omega), if_neg (fun h => by omega)]; rfl
    ·obtain ⟨L, rfl⟩ := Int.eq_ofNat_of_zero_le h1
     have hL : L < items.length := by omega
     have hin2 : (0 : Int) <= (L : Int) /\ (L : Int) < (items.length : Int) := by omega
     have hr2 := Qgb hL
     simp only [Int.toNat_natCast, hr2, go_sem, if_pos hin2]
     rw [if_pos (by omega)]
     by_cases c3 : (itA items L).to = (itA items i).fr
     ·have c4 := pt_ext.1 c3
      rw [if_neg (fun h => h ⟨c4.1, c4.2.1, c4.2.2, trivial⟩), if_neg (fun h => h.2 c3)]; rfl
     ·rw [if_pos (fun h => c3 (pt_ext.2 ⟨h.1, h.2.1, h.2.2.1⟩)), if_pos ⟨h1, c3⟩]
   ·rw [if_pos (show ¬ (1 <= (itA items i).kind /\ (itA items i).kind <= 6) from c2), if_neg c2]; rfl
  unfold chkF
  by_cases c1 : Qf4 (itA items i)
  ·rw [if_pos c1] at hst ⊢
   exact .inl ⟨Qbn hst (by simp), by simp⟩
  ·rw [if_neg c1] at hst ⊢
   by_cases c2 : motI (itA items i)
   ·rw [if_pos c2] at hst ⊢
    by_cases c3 : 0 <= last /\ (itA items last.toNat).to ≠ (itA items i).fr
    ·rw [if_pos c3] at hst ⊢
     exact .inl ⟨Qbn hst (by simp), by simp⟩
    ·rw [if_neg c3] at hst ⊢
     rw [Qbk hst]
     exact l_path_check hM hW hl k (i + 1) i (by omega) (.inr (by omega))
   ·rw [if_neg c2] at hst ⊢
    rw [Qbk hst]
    exact l_path_check hM hW hl k (i + 1) last (by omega) (by omega)

noncomputable def lastM (items : List Itm) : Nat -> Int
 | 0 => -1
 | i + 1 => if motI (itA items i) then i else lastM items i
theorem lastM_spec (items : List Itm) : ∀ i, lastM items i = -1 \/ ∃ L : Nat, lastM items i = L /\ L < i /\ motI (itA items L) /\ ∀ j, L < j -> j < i -> ¬ motI (itA items j)
 | 0 => .inl rfl
 | i + 1 => by
  unfold lastM
  by_cases c : motI (itA items i)
  ·rw [if_pos c]
   exact .inr ⟨i, rfl, by omega, c, fun j h1 h2 => by omega⟩
  ·rw [if_neg c]
   rcases lastM_spec items i with h | ⟨L, h1, h2, h3, h4⟩
   ·exact .inl h
   ·refine .inr ⟨L, h1, by omega, h3, fun j g1 g2 => ?_⟩
    by_cases e : j = i
    ·rw [e]; exact c
    ·exact h4 j g1 (by omega)
theorem frm_last (items : List Itm) : ∀ i, (Qbw items i).frm = if 0 <= lastM items i /\ 0 <= softK items (lastM items i).toNat then lastM items i else -1
 | 0 => by rw [Qbw, lastM, if_neg (by omega)]
 | i + 1 => by
  rw [Qbw, lastM]
  unfold bStep
  by_cases c : motI (itA items i)
  ·rw [if_pos c, if_pos c]
   simp only [Int.toNat_natCast]
   by_cases c2 : 0 <= softK items i
   ·rw [if_pos c2, if_pos ⟨by omega, c2⟩]
   ·rw [if_neg c2, if_neg (fun h => c2 h.2)]
  ·rw [if_neg c, if_neg c]
   exact frm_last items i
theorem soft_here {items : List Itm} {i L : Nat} (hL : L < i) (hi : i < items.length) (hm : motI (itA items i)) (hno : ∀ j, L < j -> j < i -> ¬ motI (itA items j)) (hs : 0 <= softK items L) : nextN items L = i := by
 have h1 := soft_next hs
 rcases softK_spec items L with h | ⟨-, -, k, k1, k2, k3, k4, k5⟩
 ·omega
 ·have hk : nextN items L = k := by omega
  rw [hk]
  rcases Nat.lt_trichotomy k i with h | h | h
  ·exact absurd ⟨by have := k4.1; omega, by have := k4.1; omega⟩ (hno k k2 h)
  ·exact h
  ·have := k5 i hL h
   have := hm.2
   omega
noncomputable def midN (items : List Itm) : Nat -> Int
 | 0 => 0
 | i + 1 => if motI (itA items i) then (motM items i (Qbw items i) (midN items i)).2 else midN items i
theorem frm_begun (items : List Itm) : ∀ i, (Qbw items i).begun = false -> (Qbw items i).frm = -1
 | 0, _ => by rw [Qbw]
 | i + 1, h => by
  rw [Qbw] at h ⊢
  unfold bStep at h ⊢
  by_cases c : motI (itA items i)
  ·rw [if_pos c] at h; cases h
  ·rw [if_neg c] at h ⊢
   exact frm_begun items i h
noncomputable abbrev pbR (items : List Itm) (i : Nat) : List AC :=
 [.view kSgm ((Qbw items i).segs.map sgmR), .view kMrk ((Qbw items i).marks.map mrkR), .view kItm (items.map itmR), I (lastM items i), .view kItm (items.map itmR), I items.length, I i, I (Qbw items i).start.x, I (Qbw items i).start.y, I (Qbw items i).start.z, B (Qbw items i).begun, I (Qbw items i).len, I (Qbw items i).speed, I (midN items i)]
theorem st_build18 {MK MV MN MS MM MC : List AC -> Option (List AC)} {N6 : List AC -> Option (Nat × List AC)} {items : List Itm} {i : Nat} (hi : i < items.length) (hlen : items.length <= 15) (hmk : (Qbw items i).marks.length = i)
  (hM : ∀ k : Int, MM [I k] = some [B (decide (1 <= k /\ k <= 6))]) (hS : ∀ L : Nat, L < items.length -> MS [.view kItm (items.map itmR), I L] = some [B (decide (0 <= softK items L))]) (hN : ∀ L : Nat, L < items.length -> MN [.view kItm (items.map itmR), I L] = some [I (nextN items L)])
  (hV : motI (itA items i) -> MV [.view kSgm ((Qbw items i).segs.map sgmR), .view kMrk ((Qbw items i).marks.map mrkR), .view kItm (items.map itmR), I i, I (Qbw items i).frm, I (Qbw items i).start.x, I (Qbw items i).start.y, I (Qbw items i).start.z, B (Qbw items i).begun, I (Qbw items i).len, I (Qbw items i).speed, I (midN items i)] =
   some [.view kSgm ((motM items i (Qbw items i) (midN items i)).1.1.map sgmR), .view kMrk ((Qbw items i).marks.map mrkR), B true, I (if (Qbw items i).begun = true then (Qbw items i).start else fine (itA items i).fr).x, I (if (Qbw items i).begun = true then (Qbw items i).start else fine (itA items i).fr).y, I (if (Qbw items i).begun = true then (Qbw items i).start else fine (itA items i).fr).z, B true,
    I (motM items i (Qbw items i) (midN items i)).1.2.1, I (Qbw items i).speed, I (motM items i (Qbw items i) (midN items i)).2])
  (hK : ∀ {segs : List (List AC)} {st : Pt} {b : Bool} {len sp mid : Int}, MK [.view kSgm segs, .view kMrk ((Qbw items i).marks.map mrkR), .view kItm (items.map itmR), I i, I st.x, I st.y, I st.z, B b, I len, I sp, I mid] =
   some [.view kSgm segs, .view kMrk (((Qbw items i).marks ++ [(⟨len, markK items i, i⟩ : Mrk)]).map mrkR), I st.x, I st.y, I st.z, B b, I len, I sp, I mid]) :
  st_path_build_18 MK MV MN MS MM MC N6 (pbR items i) = some (0, pbR items (i + 1)) := by
 have hr := Qgb hi
 have hin : (0 : Int) <= (i : Int) /\ (i : Int) < (items.length : Int) := by omega
 have hw : IntKind.i64.wrap ((i : Int) + 1) = ((i + 1 : Nat) : Int) := by rw [Qab (by omega)]; omega
 have hf := frm_last items i
 have hls := lastM_spec items i
 have hfst := motM_fst items i (Qbw items i) (midN items i)
 have e1 : lastM items (i + 1) = if motI (itA items i) then (i : Int) else lastM items i := rfl
 have e2 : midN items (i + 1) = if motI (itA items i) then (motM items i (Qbw items i) (midN items i)).2 else midN items i := rfl
 have e3 : Qbw items (i + 1) = bStep items i (Qbw items i) := rfl
 unfold pbR
 rw [e1, e2, e3]
 generalize Qbw items i = s at *
 generalize lastM items i = last at *
 generalize hmi : midN items i = mid at *
 unfold bStep
 rw [st_path_build_18_eq]
 by_cases hm : motI (itA items i)
 ·have h8 : ¬ (itA items i).kind = 8 := fun h => by have := hm.2; omega
  have hV := hV hm
  have hmk2 : markK items i = kindK items i := if_pos hm
  rw [if_pos hm, if_pos hm, if_pos hm]
  rw [hfst] at hV
  have hM2 : MM [I (itA items i).kind] = some [B true] := by rw [hM, decide_eq_true (show 1 <= (itA items i).kind /\ (itA items i).kind <= 6 from hm)]
  simp only [go_sem, List.length_map, Int.toNat_natCast, hr, if_pos hin, hM2]
  rw [if_pos (by omega), if_neg h8]
  have hbef : ∀ {x : Option (Nat × List AC)} {frm : Int}, s.frm = frm -> (MV [.view kSgm (s.segs.map sgmR), .view kMrk (s.marks.map mrkR), .view kItm (items.map itmR), I i, I frm, I s.start.x, I s.start.y, I s.start.z, B s.begun, I s.len, I s.speed, I mid]) =
    some [.view kSgm ((motS items i s).1.map sgmR), .view kMrk (s.marks.map mrkR), B true, I (if s.begun = true then s.start else fine (itA items i).fr).x, I (if s.begun = true then s.start else fine (itA items i).fr).y, I (if s.begun = true then s.start else fine (itA items i).fr).z, B true, I (motS items i s).2.1, I s.speed, I (motM items i s mid).2] := by
   intro x frm h; rw [<- h]; exact hV
  rcases hls with hls | ⟨L, h1, h2, h3, h4⟩
  ·rw [hls]
   rw [hls, if_neg (by omega)] at hf
   rw [if_neg (show ¬ (-1 : Int) >= 0 by omega)]
   have hv := hbef (x := none) hf
   simp only [hv, go_sem, hK, hw, hmk2]
   simp
  ·rw [h1] at hf ⊢
   rw [Int.toNat_natCast] at hf
   have hs := hS L (by omega)
   have hn := hN L (by omega)
   rw [if_pos (show (L : Int) >= 0 by omega)]
   by_cases c : 0 <= softK items L
   ·have hnx := soft_here h2 hi hm h4 c
    rw [if_pos ⟨by omega, c⟩] at hf
    rw [hnx] at hn
    rw [decide_eq_true c] at hs
    have hv := hbef (x := none) hf
    simp only [hs, hn, go_sem]
    simp only [hv, go_sem, hK, hw, hmk2]
    simp
   ·rw [if_neg (fun h => c h.2)] at hf
    rw [decide_eq_false c] at hs
    have hv := hbef (x := none) hf
    simp only [hs, go_sem]
    simp only [hv, go_sem, hK, hw, hmk2]
    simp
 ·have hmk2 : markK items i = otherK (itA items i) := if_neg hm
  rw [if_neg hm, if_neg hm, if_neg hm]
  have hM2 : MM [I (itA items i).kind] = some [B false] := by rw [hM, decide_eq_false (show ¬ (1 <= (itA items i).kind /\ (itA items i).kind <= 6) from hm)]
  unfold spdI
  simp only [go_sem, List.length_map, Int.toNat_natCast, hr, if_pos hin, hM2, hK, hw, hmk2]
  rw [if_pos (by omega)]
  by_cases h8 : (itA items i).kind = 8
  ·by_cases h3 : (itA items i).n = 3
   ·simp [h8, h3]
   ·by_cases h4 : (itA items i).n = 4
    ·simp [h8, h4]
    ·simp [h8, h3, h4]
  ·simp [h8]
end Go.Bm
/- positions of a path: its length, the segment and the point at a position -/
set_option maxRecDepth 100000
namespace Go.Bm
open Classical

def sg0 : Sgm := ⟨⟨0, 0, 0⟩, 0, 0, 0, 0⟩
def sgA (l : List Sgm) (i : Nat) : Sgm := l.getD i sg0
theorem sgA_get {l : List Sgm} {i : Nat} (h : i < l.length) : sgA l i = l[i] := by unfold sgA; simp [h]
theorem row_sgA {l : List Sgm} {i : Nat} (h : i < l.length) : nth [] (l.map sgmR) i = sgmR (sgA l i) := by rw [sgA_get h]; exact nth_map _ _ _ _ h
theorem sgA_mem {l : List Sgm} {i : Nat} (h : i < l.length) : sgA l i ∈ l := by rw [sgA_get h]; exact List.getElem_mem h
structure SegOK (l : List Sgm) : Prop where
 seg : ∀ g ∈ l, 1 <= g.len /\ g.len <= 268435456 /\ bd B26 g.to
 count : l.length <= 983055
theorem GoodPath.ok {p : Pth} (h : GoodPath p) : SegOK p.segs := ⟨good_len h.start h.segs, h.count⟩
where mx_max' (a b : Int) : mx a b = max a b := by unfold mx; rw [Int.max_def]; split <;> split <;> omega
end Go.Bm
/- the program builds the reference's path, and what is settled of it -/
set_option maxRecDepth 100000
namespace Go.Bm
open Classical

theorem s_path_RateM {it : Itm} {speed : Int} (hf : it.kind = 1 \/ 1 <= it.feed /\ it.feed <= 60000000) (hs : 0 <= speed /\ speed <= 30000) : m_path_Rate (itmR it ++ [I speed]) = some [I (rate it speed)] := by
 by_cases h1 : it.kind = 1
 ·unfold m_path_Rate rate
  generalize Qeq = M
  have h := mf_path_Rate_eq (Qb9 := M) it.kind it.block it.fr.x it.fr.y it.fr.z it.to.x it.to.y it.to.z it.plane it.ce.x it.ce.y it.ce.z it.dir it.full it.feed it.perRev it.side it.radius it.blend it.n it.speed it.on speed
  rw [if_pos h1]
  refine Eq.trans h ?_
  rw [Qiv (by simp [h1])]
 ·exact s_path_Rate (by omega) hs
theorem s_path_add {segs : List Sgm} {marks : List (List AC)} {q g st at_ : Pt} {gl item feed lead len sp mid : Int} (hat : endOf st segs = at_) (h1 : bd 67108864 at_) (h2 : bd 67108864 q) (hs : segs.length + 1 <= 1048577) (hlen : 0 <= len /\ len <= 4000000000000000000) :
  Qgr [.view kSgm (segs.map sgmR), .view kMrk marks, I q.x, I q.y, I q.z, I g.x, I g.y, I g.z, I gl, I item, I feed, I lead, I st.x, I st.y, I st.z, B true, I len, I sp, I mid] =
   some [.view kSgm ((Qgc item feed lead (segs, len, at_) q).1.map sgmR), .view kMrk marks, I st.x, I st.y, I st.z, B true, I (Qgc item feed lead (segs, len, at_) q).2.1, I sp, I mid] :=
 a_path_add hat (s_curve_Length h1 h2) (len_bd h1 h2) hs hlen
theorem step_18 {items : List Itm} (hlen : items.length <= 15) (hright : ∀ j < items.length, ¬ Qf4 (itA items j)) {i : Nat} (hi : i < items.length) :
  st_path_build_18 Qdx Qed Qe8 Qgs Qcp Qit l_path_build_6 (pbR items i) = some (0, pbR items (i + 1)) := by
 have hb := buildN_ok hright i (by omega)
 have hin := buildN_inv hright i (by omega)
 have hall : ∀ k < items.length, motI (itA items k) -> drawn (itA items k) := fun k hk hm => (right_mot (hright k hk) hm).1
 have hrm := right_mot (hright i hi)
 refine st_build18 hi hlen hb.marks s_path_motion (fun L hL => s_path_soft (by omega) hL) (fun L hL => s_path_next (by omega) hL) (fun hm => ?_) (s_path_mark (by omega) hi (by have := hb.marks; omega))
 have hd := (hrm hm).1
 exact a_path_move hi hlen hd.1 hb hin (points_bd hd hb.frm hall) (fun hs => by have h2 := (hrm hm).2; rcases hs with h | h <;> omega) (frm_begun items i) (s_path_smooth _) (s_path_middle hd.1.2.1 hd.1.2.2.1) (s_path_geared _) (s_path_RateM (hrm hm).2 hb.speed)
  (s_path_points (by omega) hi hd hb.frm hall) (fun h1 h2 h3 h4 h5 => s_path_add h1 h2 h3 h4 h5) a_path_add0
theorem loop_18 {items : List Itm} (hlen : items.length <= 15) (hright : ∀ j < items.length, ¬ Qf4 (itA items j)) : ∀ (k i : Nat), i + k = items.length ->
  Qbl (st_path_build_18 Qdx Qed Qe8 Qgs Qcp Qit l_path_build_6) (pbR items i) =
   some (2, [.view kSgm ((Qgj items).segs.map sgmR), .view kMrk ((Qgj items).marks.map mrkR), I (Qgj items).start.x, I (Qgj items).start.y, I (Qgj items).start.z, B (Qbw items items.length).begun, I (Qbw items items.length).len, I (Qbw items items.length).speed, I (midN items items.length)])
 | 0, i, hi => by
  obtain rfl : i = items.length := by omega
  refine Qbn ?_ (by simp)
  unfold pbR Qgj
  rw [st_path_build_18_eq, Qcs (by omega)]
 | k + 1, i, hi => by
  rw [Qbk (step_18 hlen hright (by omega))]
  exact loop_18 hlen hright k (i + 1) (by omega)
def builtR (items : List Itm) (o : List AC) : Prop :=
 if Qfh items = 0 then o = [.view kSgm ((Qgj items).segs.map sgmR), .view kMrk ((Qgj items).marks.map mrkR), I 0, I (Qgj items).start.x, I (Qgj items).start.y, I (Qgj items).start.z, B (Qbw items items.length).begun, I (Qbw items items.length).len, I (Qbw items items.length).speed, I (midN items items.length)]
 else o = [.view kSgm [], .view kMrk [], I (Qfh items), I 0, I 0, I 0, B false, I 0, I 0, I 0]
theorem a_path_build {MK MV MN MS MM MC : List AC -> Option (List AC)} {N6 N18 : List AC -> Option (Nat × List AC)} {items : List Itm} (hlen : items.length <= 15)
  (h6 : (N6 [.view kSgm [], .view kMrk [], .view kItm (items.map itmR), I (-1), .view kItm (items.map itmR), I items.length, I 0, I 0, I 0, I 0, B false, I 0, I 0, I 0] = some (1, [.view kSgm [], .view kMrk [], I (Qfh items), I 0, I 0, I 0, B false, I 0, I 0, I 0]) /\ Qfh items ≠ 0) \/
   (N6 [.view kSgm [], .view kMrk [], .view kItm (items.map itmR), I (-1), .view kItm (items.map itmR), I items.length, I 0, I 0, I 0, I 0, B false, I 0, I 0, I 0] = some (2, [.view kSgm [], .view kMrk [], .view kItm (items.map itmR), I 0, I 0, I 0, B false, I 0, I 0, I 0]) /\ Qfh items = 0))
  (h18 : Qfh items = 0 -> N18 [.view kSgm [], .view kMrk [], .view kItm (items.map itmR), I (-1), .view kItm (items.map itmR), I items.length, I 0, I 0, I 0, I 0, B false, I 0, I 0, I 0] =
   some (2, [.view kSgm ((Qgj items).segs.map sgmR), .view kMrk ((Qgj items).marks.map mrkR), I (Qgj items).start.x, I (Qgj items).start.y, I (Qgj items).start.z, B (Qbw items items.length).begun, I (Qbw items items.length).len, I (Qbw items items.length).speed, I (midN items items.length)])) :
  ∃ o, mf_path_build MK MV MN MS MM MC N6 N18 [.view kItm (items.map itmR)] = some o /\ builtR items o := by
 rw [mf_path_build_eq]
 have hin : ¬ ((items.length : Int) > 20000) := by omega
 rcases h6 with ⟨h, hc⟩ | ⟨h, hc⟩
 ·simp only [go_sem, List.length_map, h, if_neg hin]
  exact ⟨_, rfl, by unfold builtR; rw [if_neg hc]⟩
 ·have g := h18 hc
  simp only [go_sem, List.length_map, h, if_neg hin, g]
  rw [if_neg (by decide), if_neg (by decide)]
  exact ⟨_, rfl, by unfold builtR; rw [if_pos hc]⟩
theorem s_path_build {items : List Itm} (hlen : items.length <= 15) : ∃ o, m_path_build [.view kItm (items.map itmR)] = some o /\ builtR items o := by
 have hc : Qfh items = chkF items items.length 0 (-1) := by unfold Qfh; rw [if_neg (by omega)]
 refine a_path_build hlen ?_ fun he => loop_18 hlen (check_right he).2 items.length 0 (by omega)
 rw [hc]
 exact l_path_check s_path_motion s_path_check (by omega) items.length 0 (-1) (by omega) (.inl rfl)
theorem a_path_Build {MB : List AC -> Option (List AC)} {items : List Itm} (h : ∃ o, MB [.view kItm (items.map itmR)] = some o /\ builtR items o) :
  mf_path_Build MB [.view kItm (items.map itmR)] = if Qfh items = 0 then some (pthR (Qgj items) ++ [I 0]) else some [I 0, I 0, I 0, .view kSgm [], .view kMrk [], I (Qfh items)] := by
 obtain ⟨o, h1, h2⟩ := h
 rw [mf_path_Build_eq, h1]
 unfold builtR at h2
 by_cases c : Qfh items = 0
 ·rw [if_pos c] at h2 ⊢
  subst h2
  simp only [go_sem]
  rw [if_neg (by simp)]
  rfl
 ·rw [if_neg c] at h2 ⊢
  subst h2
  simp only [go_sem]
  rw [if_pos c]
theorem s_path_Build {items : List Itm} (hlen : items.length <= 15) : m_path_Build [.view kItm (items.map itmR)] = if Qfh items = 0 then some (pthR (Qgj items) ++ [I 0]) else some [I 0, I 0, I 0, .view kSgm [], .view kMrk [], I (Qfh items)] :=
 a_path_Build (s_path_build hlen)
end Go.Bm
/- what is settled of a path -/
set_option maxRecDepth 100000
namespace Go.Bm
open Classical

def lastNO (items : List Itm) : Nat -> Option Nat
 | 0 => none
 | i + 1 => if (itA items i).kind = 10 then lastNO items i else some i
noncomputable def settledP (items : List Itm) : Int :=
 match lastNO items items.length with
 | some i => if smI (itA items i) /\ (itA items i).blend ≠ 0 then sumLen (Qgj items).segs - lenP (Qca (itA items i)) (fine (itA items i).to) else sumLen (Qgj items).segs
 | none => sumLen (Qgj items).segs
theorem lastNO_spec {items : List Itm} {i : Nat} : ∀ {n : Nat}, lastNO items n = some i -> i < n /\ (itA items i).kind ≠ 10 /\ ∀ j, i < j -> j < n -> (itA items j).kind = 10
 | 0, h => by cases h
 | n + 1, h => by
  unfold lastNO at h
  split at h
  ·rename_i c
   obtain ⟨h1, h2, h3⟩ := lastNO_spec h
   refine ⟨by omega, h2, fun j g1 g2 => ?_⟩
   by_cases e : j = n
   ·rw [e]; exact c
   ·exact h3 j g1 (by omega)
  ·rename_i c
   cases h
   exact ⟨by omega, c, fun j g1 g2 => by omega⟩
theorem out_step {items : List Itm} {i : Nat} (h : (itA items i).kind = 10) : (Qbw items (i + 1)).len = (Qbw items i).len /\ midN items (i + 1) = midN items i := by
 have hm : ¬ motI (itA items i) := fun g => by have := g.2; omega
 constructor
 ·rw [Qbw]; unfold bStep; rw [if_neg hm]
 ·rw [midN, if_neg hm]
theorem out_steps {items : List Itm} {i : Nat} : ∀ (k : Nat), (∀ j, i <= j -> j < i + k -> (itA items j).kind = 10) -> (Qbw items (i + k)).len = (Qbw items i).len /\ midN items (i + k) = midN items i
 | 0, _ => ⟨rfl, rfl⟩
 | k + 1, h => by
  obtain ⟨h1, h2⟩ := out_steps k fun j g1 g2 => h j g1 (by omega)
  obtain ⟨h3, h4⟩ := out_step (h (i + k) (by omega) (by omega))
  exact ⟨h3.trans h1, h4.trans h2⟩
theorem sum_len {items : List Itm} (hright : ∀ j < items.length, ¬ Qf4 (itA items j)) : sumLen (Qgj items).segs = (Qbw items items.length).len := by
 have h := buildN_inv hright items.length (Nat.le_refl _)
 unfold Qgj
 by_cases hb : (Qbw items items.length).begun = true
 ·exact (h.begun hb).2.2.2
 ·obtain ⟨g1, g2, -⟩ := h.empty (by simpa using hb)
  simp only [g1, g2]
  rfl
theorem center_ne {it : Itm} (h : it.fr ≠ it.to) : fine it.to ≠ Qca it := by
 intro g
 unfold fine Qca at g
 injection g with g1 g2 g3
 exact h (pt_ext.2 ⟨by omega, by omega, by omega⟩)
theorem stepM_center (it : Itm) (h : smI it) (item feed lead : Int) (s : (List Sgm × Int × Pt) × Int) :
  (stepM it item feed lead (stepM it item feed lead s (Qca it)) (fine it.to)).2 = (stepM it item feed lead (stepM it item feed lead s (Qca it)) (fine it.to)).1.2.1 - lenP (Qca it) (fine it.to) := by
 have hne := center_ne h.2
 have h1 : (stepM it item feed lead s (Qca it)).2 = (Qgc item feed lead s.1 (Qca it)).2.1 := if_pos ⟨h, rfl⟩
 have h2 : (Qgc item feed lead s.1 (Qca it)).2.2 = Qca it := by
  unfold Qgc
  split
  ·rename_i c; exact c.symm
  ·rfl
 have h3 : (stepM it item feed lead s (Qca it)).1 = Qgc item feed lead s.1 (Qca it) := rfl
 generalize stepM it item feed lead s (Qca it) = t at *
 have h4 : (stepM it item feed lead t (fine it.to)).2 = t.2 := if_neg fun g => hne g.2
 have h5 : (stepM it item feed lead t (fine it.to)).1 = Qgc item feed lead t.1 (fine it.to) := rfl
 rw [h4, h5, h1, h3]
 rw [<- h2] at hne ⊢
 rw [h2]
 generalize Qgc item feed lead s.1 (Qca it) = u at *
 have h6 : Qgc item feed lead u (fine it.to) = (u.1 ++ [⟨fine it.to, lenP u.2.2 (fine it.to), item, feed, lead⟩], u.2.1 + lenP u.2.2 (fine it.to), fine it.to) := if_neg hne
 rw [h6, h2]
 simp only
 omega
theorem mid_set {items : List Itm} {i : Nat} (hn : lastNO items items.length = some i) (hs : smI (itA items i)) : midN items items.length = (Qbw items items.length).len - lenP (Qca (itA items i)) (fine (itA items i).to) := by
 obtain ⟨h1, -, h3⟩ := lastNO_spec hn
 obtain ⟨k, hk⟩ : ∃ k, items.length = i + 1 + k := ⟨items.length - (i + 1), by omega⟩
 have hm : motI (itA items i) := ⟨by have := hs.1; omega, by have := hs.1; omega⟩
 obtain ⟨g1, g2⟩ := out_steps (items := items) (i := i + 1) k fun j e1 e2 => h3 j (by omega) (by omega)
 have hsoft : ¬ 0 <= softK items i := by
  intro c
  have hx := soft_next c
  rcases softK_spec items i with h | ⟨-, -, m, m1, m2, m3, m4, m5⟩
  ·omega
  ·have := h3 m m2 m3
   have := m4.1
   omega
 rw [hk, g1, g2]
 have e1 : midN items (i + 1) = (motM items i (Qbw items i) (midN items i)).2 := if_pos hm
 have e2 : (Qbw items (i + 1)).len = (motM items i (Qbw items i) (midN items i)).1.2.1 := by
  rw [motM_fst, Qbw]; unfold bStep; rw [if_pos hm]
 rw [e1, e2]
 unfold motM
 have e3 : Qd9 items i (Qbw items i).frm = headP items i (Qbw items i).frm ++ [Qca (itA items i)] ++ [fine (itA items i).to] := by
  unfold Qd9
  rw [if_pos hs]
  unfold tailP
  rw [if_neg hsoft]
  unfold Qfv
  rw [if_neg (by have := hs.1; omega)]
  rfl
 rw [e3, List.foldl_append, List.foldl_append, List.foldl_cons, List.foldl_nil, List.foldl_cons, List.foldl_nil]
 exact stepM_center _ hs _ _ _ _
theorem l_path_Settled {MS MB : List AC -> Option (List AC)} {items : List Itm} {segs marks : List (List AC)} {st : Pt} {b : Bool} {len sp mid : Int} (hl : items.length <= 1000) (hS : ∀ it, MS (itmR it) = some [B (decide (smI it))]) :
  ∀ n : Nat, n <= items.length -> ∃ o : Nat × List AC, Qbl (Qhm MS MB) [.view kSgm segs, .view kMrk marks, .view kItm (items.map itmR), I ((n : Int) - 1), I st.x, I st.y, I st.z, B b, I len, I sp, I mid] = some o /\
   match lastNO items n with
   | some i => o = (1, [I (if smI (itA items i) /\ (itA items i).blend ≠ 0 then mid else len)])
   | none => o = (2, [.view kSgm segs, .view kMrk marks, I st.x, I st.y, I st.z, B b, I len, I sp, I mid])
 | 0, _ => by
  refine ⟨_, Qbn (o := (2, _)) ?_ (by simp), rfl⟩
  rw [st_path_Settled_5_eq, Qcs (by omega)]
 | n + 1, hn => by
  have hlt : n < items.length := by omega
  have hr := Qgb hlt
  have hs := hS (itA items n)
  simp only [itmR] at hs
  have hin : (0 : Int) <= (n : Int) /\ (n : Int) < (items.length : Int) := by omega
  have e : ((n + 1 : Nat) : Int) - 1 = n := by omega
  have hst : Qhm MS MB [.view kSgm segs, .view kMrk marks, .view kItm (items.map itmR), I n, I st.x, I st.y, I st.z, B b, I len, I sp, I mid] =
    if (itA items n).kind = 10 then some (0, [.view kSgm segs, .view kMrk marks, .view kItm (items.map itmR), I ((n : Int) - 1), I st.x, I st.y, I st.z, B b, I len, I sp, I mid])
    else some (1, [I (if smI (itA items n) /\ (itA items n).blend ≠ 0 then mid else len)]) := by
   rw [st_path_Settled_5_eq]
   simp only [go_sem, List.length_map, Int.toNat_natCast, hr, hs, if_pos hin]
   rw [if_pos (by omega), Qab (by omega)]
   by_cases c1 : (itA items n).kind = 10
   ·rw [if_pos c1, if_pos c1]
   ·rw [if_neg c1, if_neg c1]
    by_cases c2 : smI (itA items n)
    ·rw [if_pos c2]
     by_cases c3 : (itA items n).blend ≠ 0
     ·rw [if_pos c3, if_pos ⟨c2, c3⟩]
     ·rw [if_neg c3, if_neg (fun g => c3 g.2)]
    ·rw [if_neg c2, if_neg (fun g => c2 g.1)]
  rw [e]
  unfold lastNO
  by_cases c1 : (itA items n).kind = 10
  ·rw [if_pos c1] at hst ⊢
   rw [Qbk hst]
   exact l_path_Settled hl hS n (by omega)
  ·rw [if_neg c1] at hst ⊢
   exact ⟨_, Qbn hst (by simp), rfl⟩
theorem a_path_Settled {MS MB : List AC -> Option (List AC)} {items : List Itm} (hl : items.length <= 15) (hS : ∀ it, MS (itmR it) = some [B (decide (smI it))]) (h : ∃ o, MB [.view kItm (items.map itmR)] = some o /\ builtR items o) :
  mf_path_Settled MS MB (Qbl (Qhm MS MB)) [.view kItm (items.map itmR)] = some [I (if Qfh items = 0 then settledP items else 0)] := by
 obtain ⟨o, h1, h2⟩ := h
 unfold builtR at h2
 by_cases c : Qfh items = 0
 ·rw [if_pos c] at h2 ⊢
  have hright := (check_right c).2
  have hsum := sum_len hright
  have hmid := fun i hn hs => mid_set (items := items) (i := i) hn hs
  have hlp := @l_path_Settled MS MB items ((Qgj items).segs.map sgmR) ((Qgj items).marks.map mrkR) (Qgj items).start (Qbw items items.length).begun (Qbw items items.length).len (Qbw items items.length).speed (midN items items.length) (by omega) hS items.length (by omega)
  obtain ⟨r, r1, r2⟩ := hlp
  rw [mf_path_Settled_eq, h1]
  subst h2
  have hw : IntKind.i64.wrap ((items.length : Int) - 1) = (items.length : Int) - 1 := Qab (by omega)
  unfold settledP
  rw [hsum]
  generalize Qbl (Qhm MS MB) = N at *
  simp only [go_sem, List.length_map, hw, r1]
  rw [if_neg (by simp)]
  cases hn : lastNO items items.length with
  | none =>
   rw [hn] at r2
   simp only at r2
   subst r2
   rfl
  | some i =>
   rw [hn] at r2
   simp only at r2
   subst r2
   simp only [go_sem]
   by_cases c2 : smI (itA items i) /\ (itA items i).blend ≠ 0
   ·rw [if_pos c2, if_pos c2, hmid i hn c2.1]
   ·rw [if_neg c2, if_neg c2]
 ·rw [if_neg c] at h2 ⊢
  subst h2
  rw [mf_path_Settled_eq, h1]
  simp only [go_sem]
  rw [if_pos c]
theorem s_path_Settled {items : List Itm} (hl : items.length <= 15) : m_path_Settled [.view kItm (items.map itmR)] = some [I (if Qfh items = 0 then settledP items else 0)] := a_path_Settled hl s_path_smooth (s_path_build hl)
end Go.Bm
/- positions of a path in the reference; the path of the law's maker -/
set_option maxRecDepth 100000
namespace Go.Bm
open Classical

theorem l_ref_Length {l : List Sgm} (h : SegOK l) : ∀ (k i : Nat) (v : Int), i + k = l.length -> 0 <= v -> v + k * 268435456 <= 4000000000000000000 ->
  Qbl st_cncref25_Length_3 [I v, .view kSgm (l.map sgmR), I l.length, I i] = some (1, [I (v + sumLen (l.drop i))])
 | 0, i, v, hi, _, _ => by
  refine Qbn ?_ (by simp)
  rw [st_cncref25_Length_3_eq, Qcs (by omega), List.drop_of_length_le (by omega)]
  simp [sumLen]
 | k + 1, i, v, hi, h0, h1 => by
  have hlt : i < l.length := by omega
  have hcn := h.count
  have hg := h.seg _ (sgA_mem hlt)
  have hst : st_cncref25_Length_3 [I v, .view kSgm (l.map sgmR), I l.length, I i] = some (0, [I (v + (sgA l i).len), .view kSgm (l.map sgmR), I l.length, I (i + 1 : Nat)]) := by
   rw [st_cncref25_Length_3_eq]
   simp only [go_sem, List.length_map, Int.toNat_natCast, row_sgA hlt]
   rw [if_pos (by omega), if_pos (by omega), Qab (x := v + _) (by omega), Qab (by omega)]
   rfl
  rw [Qbk hst, l_ref_Length h k (i + 1) _ (by omega) (by omega) (by omega)]
  have e : l.drop i = sgA l i :: l.drop (i + 1) := by rw [sgA_get hlt]; exact getElem_take_drop _ _ hlt
  rw [e]
  simp only [sumLen, Int.add_assoc]
theorem s_ref_Length {p : Pth} (h : SegOK p.segs) : Qff (pthR p) = some [I (sumLen p.segs)] := by
 have hl := l_ref_Length h p.segs.length 0 0 (by omega) (by omega) (by have := h.count; omega)
 have hl' : l_cncref25_Length_3 [I 0, .view kSgm (p.segs.map sgmR), I p.segs.length, I 0] = some (1, [I (0 + sumLen (p.segs.drop 0))]) := hl
 rw [List.drop_zero, Int.zero_add] at hl'
 unfold Qff
 generalize l_cncref25_Length_3 = N at *
 rw [mf_cncref25_Length_eq]
 simp only [go_sem, List.length_map, hl']
end Go.Bm
/- which paths are valid: the program and the reference agree -/
set_option maxRecDepth 100000
namespace Go.Bm
open Classical

def segOne (item : Int) (a : Pt) (g : Sgm) : Prop := bd B24 g.to /\ g.to ≠ a /\ g.len = lenP a g.to /\ item <= g.item /\ (0 <= g.feed /\ g.feed <= 16777216) /\ (0 <= g.lead /\ g.lead <= 16777216)
def segsOK (item : Int) (a : Pt) : List Sgm -> Prop
 | [] => True
 | g :: l => segOne item a g /\ segsOK g.item g.to l
def markOne (last n : Int) (m : Mrk) : Prop := last <= m.at_ /\ m.at_ <= n /\ (1 <= m.kind /\ m.kind <= 6) /\ 0 <= m.item
def marksOK (last n : Int) : List Mrk -> Prop
 | [] => True
 | m :: l => markOne last n m /\ marksOK m.at_ n l
theorem row_sg {l : List Sgm} {i : Nat} (h : i < l.length) : nth [] (l.map sgmR) i = sgmR l[i] := nth_map _ _ _ _ h
theorem row_mk {l : List Mrk} {i : Nat} (h : i < l.length) : nth [] (l.map mrkR) i = mrkR l[i] := nth_map _ _ _ _ h

end Go.Bm
/- what the maker makes can be drawn -/
set_option maxRecDepth 100000
namespace Go.Bm

end Go.Bm
/- the maker's lists of items of all kinds -/
set_option maxRecDepth 100000
namespace Go.Bm
open Classical

structure Oth (it : Itm) : Prop where
 kind : 7 <= it.kind /\ it.kind <= 14
 spin : it.kind = 8 -> 3 <= it.n /\ it.n <= 5 /\ 0 <= it.speed /\ it.speed <= 4000
 dwell : it.kind = 7 -> 0 <= it.n /\ it.n <= 4
 out : it.kind = 10 -> 0 <= it.n /\ it.n <= 15
def Link : Pt -> List Itm -> Prop
 | _, [] => True
 | p, it :: l => if motI it then it.fr = p /\ Link it.to l else Link p l
def lastL : Pt -> List Itm -> Pt
 | p, [] => p
 | p, it :: l => if motI it then lastL it.to l else lastL p l
theorem link_snoc {it : Itm} : ∀ {l : List Itm} {p : Pt}, Link p l -> (motI it -> it.fr = lastL p l) -> Link p (l ++ [it])
 | [], p, _, h => by
  simp only [List.nil_append, Link]
  split
  ·rename_i c; exact ⟨h c, trivial⟩
  ·trivial
 | a :: l, p, h1, h => by
  simp only [List.cons_append, Link] at h1 ⊢
  unfold lastL at h
  by_cases c : motI a
  ·rw [if_pos c] at h1 h ⊢
   exact ⟨h1.1, link_snoc h1.2 h⟩
  ·rw [if_neg c] at h1 h ⊢
   exact link_snoc h1 h
theorem lastL_snoc {it : Itm} : ∀ {l : List Itm} {p : Pt}, lastL p (l ++ [it]) = if motI it then it.to else lastL p l
 | [], p => by simp only [List.nil_append, lastL]
 | a :: l, p => by
  simp only [List.cons_append, lastL]
  by_cases c : motI a
  ·rw [if_pos c, if_pos c]; exact lastL_snoc
  ·rw [if_neg c, if_neg c]; exact lastL_snoc
structure Items (A : Nat) (p : Pt) (l : List Itm) : Prop where
 link : Link p l
 made : ∀ it ∈ l, (motI it /\ Made it /\ blank it /\ bd A it.fr /\ bd A it.to) \/ Oth it
theorem items_snoc {A : Nat} {p : Pt} {l : List Itm} {it : Itm} (h : Items A p l) (h1 : motI it -> it.fr = lastL p l) (h2 : (motI it /\ Made it /\ blank it /\ bd A it.fr /\ bd A it.to) \/ Oth it) : Items A p (l ++ [it]) := by
 refine ⟨link_snoc h.link h1, fun i hi => ?_⟩
 simp only [List.mem_append, List.mem_singleton] at hi
 rcases hi with hi | rfl
 ·exact h.made i hi
 ·exact h2
theorem oth_mot {it : Itm} (h : Oth it) : ¬ motI it := fun g => by have := h.kind; have := g.2; omega

theorem a_other {MN : List AC -> Option (List AC)} {l : List (List AC)} (hN : NextOK l MN) (k : Nat) :
  ∃ (it : Itm) (k' : Nat), mf_cncmill_other MN [.view Qbo l, I k] = some (itmR it ++ [.view Qbo l, I k']) /\ k <= k' /\ Oth it := by
 rw [mf_cncmill_other_eq]
 obtain ⟨v0, k0, e0, a0, b0, c0, -, -⟩ := hN k (n := 8) (by omega)
 obtain ⟨v1, k1, e1, a1, b1, c1, -, -⟩ := hN k0 (n := 16) (by omega)
 obtain ⟨v2, k2, e2, a2, b2, c2, -, -⟩ := hN k1 (n := 2) (by omega)
 obtain ⟨v3, k3, e3, a3, b3, c3, -, -⟩ := hN k0 (n := 5) (by omega)
 obtain ⟨v4, k4, e4, a4, b4, c4, -, -⟩ := hN k0 (n := 3) (by omega)
 obtain ⟨v5, k5, e5, a5, b5, c5, -, -⟩ := hN k4 (n := 4000) (by omega)
 simp only [go_sem, e0, e1, e2, e3, e4, e5]
 rw [Qab (x := 3 + v4) (by omega)]
 have fin : ∀ (kd n sp : Int) (on : Bool) (k' : Nat), k <= k' -> Oth ⟨kd, 0, ⟨0, 0, 0⟩, ⟨0, 0, 0⟩, 0, ⟨0, 0, 0⟩, 0, false, 0, false, 0, 0, 0, n, sp, on⟩ ->
   ∃ (it : Itm) (k'' : Nat), some [I kd, I 0, I 0, I 0, I 0, I 0, I 0, I 0, I 0, I 0, I 0, I 0, I 0, B false, I 0, B false, I 0, I 0, I 0, I n, I sp, B on, .view Qbo l, I k'] = some (itmR it ++ [.view Qbo l, I k'']) /\ k <= k'' /\ Oth it := by
  intro kd n sp on k' h1 h2
  exact ⟨_, k', rfl, h1, h2⟩
 by_cases c0 : v0 = 0
 ·rw [if_pos c0]; exact fin _ _ _ _ _ (by omega) ⟨by simp only; omega, by simp, by simp, fun _ => by simp only; omega⟩
 rw [if_neg c0]
 by_cases c1 : v0 = 1
 ·rw [if_pos c1]; exact fin _ _ _ _ _ (by omega) ⟨by simp only; omega, by simp, by simp, fun _ => by simp only; omega⟩
 rw [if_neg c1]
 by_cases c2 : v0 = 2
 ·rw [if_pos c2]; exact fin _ _ _ _ _ (by omega) ⟨by simp only; omega, by simp, fun _ => by simp only; omega, by simp⟩
 rw [if_neg c2]
 by_cases c3 : v0 = 3
 ·rw [if_pos c3]; exact fin _ _ _ _ _ (by omega) ⟨by simp only; omega, fun _ => by simp only; omega, by simp, by simp⟩
 rw [if_neg c3]
 by_cases c4 : v0 = 4
 ·rw [if_pos c4]; exact fin _ _ _ _ _ (by omega) ⟨by simp only; omega, by simp, by simp, by simp⟩
 rw [if_neg c4]
 by_cases c5 : v0 = 5
 ·rw [if_pos c5]; exact fin _ _ _ _ _ (by omega) ⟨by simp only; omega, by simp, by simp, by simp⟩
 rw [if_neg c5]
 by_cases c6 : v0 = 6
 ·rw [if_pos c6]; exact fin _ _ _ _ _ (by omega) ⟨by simp only; omega, by simp, by simp, by simp⟩
 rw [if_neg c6]
 exact fin _ _ _ _ _ (by omega) ⟨by simp only; omega, by simp, by simp, by simp⟩
theorem s_other_item {l : List (List AC)} (hl : Src l) (k : Nat) : ∃ (it : Itm) (k' : Nat), Qh4 [.view Qbo l, I k] = some (itmR it ++ [.view Qbo l, I k']) /\ k <= k' /\ Oth it := a_other (nextOK hl) k
theorem kind_at8 {v : Int} (h : 0 <= v /\ v < 8) : ∃ x, Qas (nth .dead (nth [] [[I 2], [I 2], [I 2], [I 3], [I 1], [I 6], [I 5], [I 4]] v.toNat) 0) = x /\ 1 <= x /\ x <= 6 := by
 have hc : v = 0 \/ v = 1 \/ v = 2 \/ v = 3 \/ v = 4 \/ v = 5 \/ v = 6 \/ v = 7 := by omega
 rcases hc with rfl | rfl | rfl | rfl | rfl | rfl | rfl | rfl <;> exact ⟨_, rfl, by decide⟩
theorem a_ItemsL {MM MO ML MN MF : List AC -> Option (List AC)} {l : List (List AC)} (hN : NextOK l MN)
  (hM : ∀ {p : Pt}, bd 100000000 p -> ∀ {kind : Int}, (1 <= kind /\ kind <= 6) -> ∀ k : Nat,
   ∃ (it : Itm) (k' : Nat), MM [I p.x, I p.y, I p.z, I kind, .view Qbo l, I k] = some (itmR it ++ [.view Qbo l, I k']) /\ k <= k' /\ it.fr = p /\ it.kind = kind /\ Made it /\ blank it)
  (hO : ∀ k : Nat, ∃ (it : Itm) (k' : Nat), MO [.view Qbo l, I k] = some (itmR it ++ [.view Qbo l, I k']) /\ k <= k' /\ Oth it)
  (hL : ∀ k : Nat, ML [.view Qbo l, I k] = some [B (decide (k < l.length)), .view Qbo l, I k]) {most : Int} {fin : Bool} (hm : most <= 100) {p : Pt} :
  ∀ s : List Itm × Nat, (Items (4 + 40 * 102) p s.1 /\ bd (4 + 40 * s.1.length) (lastL p s.1) /\ (s.1 = [] \/ s.1.length <= most + 1)) ->
   ∃ o, Qbl (st_cncmill_Items_4 MM MO ML MN MF) [.view kItm (s.1.map itmR), I most, B fin, I (lastL p s.1).x, I (lastL p s.1).y, I (lastL p s.1).z, .view Qbo l, I s.2] = some o /\ o.1 ≠ 0 /\
    ∃ items, o = (1, [.view kItm (items.map itmR), B fin]) /\ Items (4 + 40 * 102) p items /\ (items = [] \/ items.length <= most + 1) := by
 refine loop_nat (S := List Itm × Nat) (fun s => [.view kItm (s.1.map itmR), I most, B fin, I (lastL p s.1).x, I (lastL p s.1).y, I (lastL p s.1).z, .view Qbo l, I s.2]) _ (fun s => l.length - s.2) _ ?_
 rintro ⟨items, k⟩ ⟨h1, h2, h3⟩
 simp only at h1 h2 h3
 simp only
 rw [st_cncmill_Items_4_eq]
 simp only [go_sem, hL, List.length_map]
 by_cases c1 : (items.length : Int) < most
 case neg =>
  rw [if_neg c1]
  exact .inr ⟨_, rfl, by simp, items, rfl, h1, h3⟩
 rw [if_pos c1]
 by_cases c2 : k < l.length
 case neg =>
  rw [if_neg (by simpa using c2)]
  exact .inr ⟨_, rfl, by simp, items, rfl, h1, h3⟩
 rw [if_pos (by simpa using c2)]
 obtain ⟨v, k1, e1, a1, b1, d1, d2, -⟩ := hN k (n := 12) (by omega)
 have d3 := d2 c2
 subst d3
 simp only [go_sem, e1]
 have hmost : items.length < 100 := by omega
 by_cases c3 : v < 4
 ·rw [if_pos c3]
  obtain ⟨it, k2, e2, g1, g2⟩ := hO (k + 1)
  have hnm := oth_mot g2
  simp only [go_sem, e2, itmR, List.cons_append, List.nil_append]
  rw [if_pos (by simp; omega)]
  left
  refine ⟨(items ++ [it], k2), ?_, ⟨items_snoc h1 (fun h => absurd h hnm) (.inr g2), ?_, .inr ?_⟩, ?_⟩
  ·simp only [lastL_snoc, if_neg hnm, List.map_append, List.map_cons, List.map_nil, itmR]
  ·simp only [lastL_snoc, if_neg hnm, List.length_append, List.length_singleton]
   exact Qcb h2 (by omega)
  ·simp only [List.length_append, List.length_singleton]; omega
  ·simp only; omega
 ·rw [if_neg c3, Qab (by omega)]
  obtain ⟨x, hx, hx1, hx2⟩ := kind_at8 (v := v - 4) (by omega)
  have hpb : bd 100000000 (lastL p items) := Qcb h2 (by omega)
  obtain ⟨it, k2, e2, g1, g2, g3, g4, g5⟩ := hM hpb (kind := x) (by omega) (k + 1)
  have hmo : motI it := by unfold motI; omega
  have hb2 := made_bd g4 (by rw [g2]; exact h2)
  rw [if_pos (by simp; omega)]
  simp only [go_sem, hx, e2, itmR, List.cons_append, List.nil_append]
  have hmade : (motI it /\ Made it /\ blank it /\ bd (4 + 40 * 102) it.fr /\ bd (4 + 40 * 102) it.to) \/ Oth it := .inl ⟨hmo, g4, g5, by rw [g2]; exact Qcb h2 (by omega), Qcb hb2 (by omega)⟩
  by_cases c5 : it.kind = 5
  ·rw [if_pos c5]
   obtain ⟨v3, k3, e3, a3, b3, d3, -, -⟩ := hN k2 (n := 2) (by omega)
   obtain ⟨v4, k4, e4, a4, b4, d4, -, -⟩ := hN k3 (n := 3000) (by omega)
   simp only [go_sem, e3, e4]
   rw [Qab (x := 3 + v3) (by omega), Qab (x := 200 + v4) (by omega)]
   rw [if_pos (by simp; omega), if_pos (by simp; omega)]
   have hsp : Oth ⟨8, 0, ⟨0, 0, 0⟩, ⟨0, 0, 0⟩, 0, ⟨0, 0, 0⟩, 0, false, 0, false, 0, 0, 0, 3 + v3, 200 + v4, false⟩ := ⟨by simp only; omega, fun _ => by simp only; omega, by simp, by simp⟩
   have hnm := oth_mot hsp
   have i1 := items_snoc h1 (fun h => absurd h hnm) (.inr hsp)
   left
   refine ⟨(items ++ [⟨8, 0, ⟨0, 0, 0⟩, ⟨0, 0, 0⟩, 0, ⟨0, 0, 0⟩, 0, false, 0, false, 0, 0, 0, 3 + v3, 200 + v4, false⟩] ++ [it], k4), ?_, ⟨items_snoc i1 (fun _ => by rw [lastL_snoc, if_neg hnm]; exact g2) hmade, ?_, .inr ?_⟩, ?_⟩
   ·simp only [lastL_snoc, if_pos hmo, List.map_append, List.map_cons, List.map_nil, itmR]
   ·simp only [lastL_snoc, if_pos hmo, List.length_append, List.length_singleton]
    exact Qcb hb2 (by omega)
   ·simp only [List.length_append, List.length_singleton]; omega
   ·simp only; omega
  ·rw [if_neg c5, if_pos (by simp; omega)]
   left
   refine ⟨(items ++ [it], k2), ?_, ⟨items_snoc h1 (fun _ => g2) hmade, ?_, .inr ?_⟩, ?_⟩
   ·simp only [lastL_snoc, if_pos hmo, List.map_append, List.map_cons, List.map_nil, itmR]
   ·simp only [lastL_snoc, if_pos hmo, List.length_append, List.length_singleton]
    exact Qcb hb2 (by omega)
   ·simp only [List.length_append, List.length_singleton]; omega
   ·simp only; omega
def endI : Itm := ⟨14, 0, ⟨0, 0, 0⟩, ⟨0, 0, 0⟩, 0, ⟨0, 0, 0⟩, 0, false, 0, false, 0, 0, 0, 0, 0, false⟩
theorem end_oth : Oth endI := ⟨by simp [endI], by simp [endI], by simp [endI], by simp [endI]⟩
theorem a_Items {MM MO ML MN MF : List AC -> Option (List AC)} {N : List AC -> Option (Nat × List AC)} {l : List (List AC)} (hN : NextOK l MN) (hF : MF [.view Qbo l] = some [.view Qbo l, I 0]) {most : Int} {fin : Bool} (hm : most <= 100)
  (hL : ∀ (p : Pt) (k : Nat), bd 4 p -> ∃ items, N [.view kItm [], I most, B fin, I p.x, I p.y, I p.z, .view Qbo l, I k] = some (1, [.view kItm (items.map itmR), B fin]) /\ Items 4084 p items /\ (items = [] \/ items.length <= most + 1)) :
  ∃ (p : Pt) (items : List Itm), mf_cncmill_Items MM MO ML MN MF N [.view Qbo l, I most, B fin] = some [.view kItm ((items ++ if fin = true then [endI] else []).map itmR)] /\ Items 4084 p items /\ (items = [] \/ items.length <= most + 1) := by
 obtain ⟨v1, k1, e1, a1, b1, c1, -, -⟩ := hN 0 (n := 9) (by omega)
 obtain ⟨v2, k2, e2, a2, b2, c2, -, -⟩ := hN k1 (n := 9) (by omega)
 obtain ⟨v3, k3, e3, a3, b3, c3, -, -⟩ := hN k2 (n := 9) (by omega)
 obtain ⟨items, h1, h2, h3⟩ := hL ⟨v1 - 4, v2 - 4, v3 - 4⟩ k3 ⟨by simp only; omega, by simp only; omega, by simp only; omega⟩
 rw [mf_cncmill_Items_eq]
 have e1' : MN [I 9, .view Qbo l, I 0] = some [I v1, .view Qbo l, I k1] := e1
 simp only [go_sem, hF, e1', e2, e3]
 rw [Qab (x := v1 - 4) (by omega), Qab (x := v2 - 4) (by omega), Qab (x := v3 - 4) (by omega)]
 simp only [h1, go_sem]
 refine ⟨_, items, ?_, h2, h3⟩
 have hlen : items.length <= 101 := by
  rcases h3 with h3 | h3
  ·rw [h3]; simp
  ·omega
 cases fin
 ·simp
 ·rw [if_pos rfl, if_pos (by simp; omega), if_pos rfl, List.map_append]
  rfl
theorem s_Items {l : List (List AC)} (hl : Src l) {most : Int} (hm : most <= 100) (fin : Bool) :
  ∃ (p : Pt) (items : List Itm), m_cncmill_Items [.view Qbo l, I most, B fin] = some [.view kItm (items.map itmR)] /\ Items 4084 p items /\ (items.length : Int) <= max most (-1) + 2 /\ (fin = true -> ∃ l, items = l ++ [endI] /\ (l.length : Int) <= max most (-1) + 1) /\ (fin = false -> (items.length : Int) <= max most (-1) + 1) := by
 obtain ⟨p, items, h1, h2, h3⟩ := a_Items (MM := Qgt) (MO := Qh4) (ML := Qdt) (N := l_cncmill_Items_4) (fin := fin) (nextOK hl) (s_From l) hm fun p k hp => by
  obtain ⟨o, h1, -, items, rfl, h3, h4⟩ := a_ItemsL (MF := Qhi) (fin := fin) (nextOK hl) (fun hp _ hk k => s_motion hl hp hk k) (fun k => s_other_item hl k) (s_Left l) hm (p := p) ([], k) ⟨⟨trivial, by simp⟩, hp, .inl rfl⟩
  exact ⟨items, h1, h3, h4⟩
 have hle : (items.length : Int) <= max most (-1) + 1 := by
  rcases h3 with h3 | h3
  ·rw [h3]; simp; omega
  ·omega
 refine ⟨p, _, h1, ?_, ?_, fun hf => ?_, fun hf => ?_⟩
 ·cases fin
  ·simpa using h2
  ·simp only [if_true]
   exact items_snoc h2 (fun h => absurd h (oth_mot end_oth)) (.inr end_oth)
 ·cases fin
  ·simp; omega
  ·simp; omega
 ·subst hf; exact ⟨items, by simp, hle⟩
 ·subst hf; simpa using hle

end Go.Bm
/- the path of items that the maker makes is valid -/
set_option maxRecDepth 100000
namespace Go.Bm
open Classical

structure okW (R : Nat) (s : Spk) : Prop where
 ok : okS s
 u : s.u.natAbs <= R
 w : s.w.natAbs <= R
 r : s.r <= R
def lastIt : Int -> List Sgm -> Int
 | k, [] => k
 | _, g :: l => lastIt g.item l
structure VInv (i : Nat) (s : BSt) : Prop where
 begun : s.begun = true -> bd B24 s.start /\ segsOK 0 s.start s.segs /\ lastIt 0 s.segs <= i
 marks : marksOK 0 s.len s.marks
end Go.Bm
/- what is settled of a path, as the reference says; a path is the same as itself -/
set_option maxRecDepth 100000
namespace Go.Bm
open Classical

theorem l_ref_Settled {MLn MF MC MLg MSm MB : List AC -> Option (List AC)} {items : List Itm} {p : Pth} (hl : items.length <= 1000) (hright : ∀ j < items.length, ¬ Qf4 (itA items j)) (hS : ∀ it, MSm (itmR it) = some [B (decide (smI it))])
  (hC : ∀ {it : Itm}, bd 1048576 it.fr -> bd 1048576 it.to -> MC (itmR it) = some (ptR (Qca it))) (hF : ∀ {q : Pt}, bd 100000000 q -> MF [I q.x, I q.y, I q.z] = some (ptR (fine q)))
  (hLn : ∀ {a b : Pt}, bd 67108864 a -> bd 67108864 b -> MLn [I a.x, I a.y, I a.z, I b.x, I b.y, I b.z] = some [I (lenP a b)]) (hLg : MLg (pthR p) = some [I (sumLen p.segs)]) (hsum : 0 <= sumLen p.segs /\ sumLen p.segs <= 4000000000000000000) :
  ∀ n : Nat, n <= items.length -> ∃ o : Nat × List AC, Qbl (Qfg MLn MF MC MLg MSm MB) (.view kItm (items.map itmR) :: I ((n : Int) - 1) :: pthR p) = some o /\
   match lastNO items n with
   | some i => o = if smI (itA items i) /\ (itA items i).blend ≠ 0 then (1, [I (sumLen p.segs - lenP (Qca (itA items i)) (fine (itA items i).to))]) else (2, pthR p)
   | none => o = (2, pthR p)
 | 0, _ => by
  refine ⟨_, Qbn (o := (2, _)) ?_ (by simp), rfl⟩
  rw [st_cncref25_Settled_5_eq, Qcs (by omega)]
 | n + 1, hn => by
  have hlt : n < items.length := by omega
  have hr := Qgb hlt
  have hs := hS (itA items n)
  have hin : (0 : Int) <= (n : Int) /\ (n : Int) < (items.length : Int) := by omega
  have e : ((n + 1 : Nat) : Int) - 1 = n := by omega
  have hst : Qbl (Qfg MLn MF MC MLg MSm MB) (.view kItm (items.map itmR) :: I n :: pthR p) =
    if (itA items n).kind = 10 then Qbl (Qfg MLn MF MC MLg MSm MB) (.view kItm (items.map itmR) :: I ((n : Int) - 1) :: pthR p)
    else some (if smI (itA items n) /\ (itA items n).blend ≠ 0 then (1, [I (sumLen p.segs - lenP (Qca (itA items n)) (fine (itA items n).to))]) else (2, pthR p)) := by
   have key : Qfg MLn MF MC MLg MSm MB (.view kItm (items.map itmR) :: I n :: pthR p) =
     if (itA items n).kind = 10 then some (0, .view kItm (items.map itmR) :: I ((n : Int) - 1) :: pthR p)
     else some (if smI (itA items n) /\ (itA items n).blend ≠ 0 then (1, [I (sumLen p.segs - lenP (Qca (itA items n)) (fine (itA items n).to))]) else (2, pthR p)) := by
    rw [st_cncref25_Settled_5_eq]
    simp only [itmR] at hs
    simp only [pthR] at hLg
    simp only [go_sem, List.length_map, Int.toNat_natCast, hr, hs, if_pos hin, hLg]
    rw [if_pos (by omega), Qab (x := (n : Int) - 1) (by omega)]
    by_cases c1 : (itA items n).kind = 10
    ·rw [if_pos c1, if_pos c1]
    ·rw [if_neg c1, if_neg c1]
     by_cases c2 : smI (itA items n)
     ·have hm : motI (itA items n) := ⟨by have := c2.1; omega, by have := c2.1; omega⟩
      have hd := (right_mot (hright n hlt) hm).1
      have hcc := hC hd.1.2.1 hd.1.2.2.1
      have hff := hF (Qcb hd.1.2.2.1 (by decide) : bd 100000000 (itA items n).to)
      have hll := hLn (Qcb (center_bd hd.1.2.1 hd.1.2.2.1) (by decide)) (Qcb (fine_bd hd.1.2.2.1) (by decide) : bd 67108864 (fine (itA items n).to))
      have hlb := len_bd (Qcb (center_bd hd.1.2.1 hd.1.2.2.1) (by decide)) (Qcb (fine_bd hd.1.2.2.1) (by decide) : bd 67108864 (fine (itA items n).to))
      simp only [itmR] at hcc
      rw [if_pos c2]
      simp only [hcc, hff, hll, go_sem]
      have hb := hd.2
      by_cases c3 : (itA items n).blend ≠ 0
      ·rw [if_pos (by omega), if_pos ⟨c2, c3⟩, Qab (by omega)]
      ·rw [if_neg (by omega), if_neg (fun g => c3 g.2)]
     ·rw [if_neg c2, if_neg (fun g => c2 g.1)]
   by_cases c1 : (itA items n).kind = 10
   ·rw [if_pos c1] at key ⊢
    exact Qbk key
   ·rw [if_neg c1] at key ⊢
    refine Qbn key ?_
    split <;> simp
  rw [e, hst]
  unfold lastNO
  by_cases c1 : (itA items n).kind = 10
  ·rw [if_pos c1, if_pos c1]
   exact l_ref_Settled hl hright hS hC hF hLn hLg hsum n (by omega)
  ·rw [if_neg c1, if_neg c1]
   exact ⟨_, rfl, rfl⟩
theorem a_ref_Settled {MLn MF MC MLg MSm MB : List AC -> Option (List AC)} {N : List AC -> Option (Nat × List AC)} {items : List Itm} (hl : items.length <= 15)
  (hB : MB [.view kItm (items.map itmR)] = if Qfh items = 0 then some (pthR (Qgj items) ++ [I 0]) else some [I 0, I 0, I 0, .view kSgm [], .view kMrk [], I (Qfh items)])
  (hLg : Qfh items = 0 -> MLg (pthR (Qgj items)) = some [I (sumLen (Qgj items).segs)])
  (hN : Qfh items = 0 -> ∃ o : Nat × List AC, N (.view kItm (items.map itmR) :: I ((items.length : Int) - 1) :: pthR (Qgj items)) = some o /\
   match lastNO items items.length with
   | some i => o = if smI (itA items i) /\ (itA items i).blend ≠ 0 then (1, [I (sumLen (Qgj items).segs - lenP (Qca (itA items i)) (fine (itA items i).to))]) else (2, pthR (Qgj items))
   | none => o = (2, pthR (Qgj items))) :
  mf_cncref25_Settled MLn MF MC MLg MSm MB N [.view kItm (items.map itmR)] = some [I (if Qfh items = 0 then settledP items else 0)] := by
 rw [mf_cncref25_Settled_eq, hB]
 by_cases c : Qfh items = 0
 ·rw [if_pos c, if_pos c]
  obtain ⟨o, h1, h2⟩ := hN c
  have hLg := hLg c
  simp only [pthR] at hLg h1 h2
  have hw : IntKind.i64.wrap ((items.length : Int) - 1) = (items.length : Int) - 1 := Qab (by omega)
  unfold settledP
  simp only [go_sem, List.length_map, hw, List.cons_append, List.nil_append, h1]
  rw [if_neg (by simp)]
  cases hn : lastNO items items.length with
  | none =>
   rw [hn] at h2
   simp only at h2
   subst h2
   simp only [go_sem, hLg]
   simp
  | some i =>
   rw [hn] at h2
   simp only at h2
   by_cases c2 : smI (itA items i) /\ (itA items i).blend ≠ 0
   ·rw [if_pos c2] at h2
    subst h2
    simp only [go_sem]
    rw [if_pos c2]
   ·rw [if_neg c2] at h2
    subst h2
    simp only [go_sem, hLg]
    rw [if_neg c2]
    simp
 ·rw [if_neg c, if_neg c]
  simp only [go_sem]
  rw [if_pos c]
theorem s_ref_Settled {items : List Itm} (hl : items.length <= 15) : m_cncref25_Settled [.view kItm (items.map itmR)] = some [I (if Qfh items = 0 then settledP items else 0)] := by
 have hsum : Qfh items = 0 -> SegOK (Qgj items).segs := fun c => (goodP_of hl c).ok
 refine a_ref_Settled (MLn := Qbt) (MF := Qbj) (MC := Qcn) (MLg := Qff) (MSm := Qcj) (MB := Qdh) hl (s_Build hl) (fun c => s_ref_Length (hsum c)) fun c => ?_
 have hg := sum_bd (hsum c).seg
 have hct := (hsum c).count
 exact l_ref_Settled (MB := Qdh) (by omega) (check_right c).2 s_Smooth s_Center s_Fine (fun h1 h2 => (Qf9 h1 h2).1) (s_ref_Length (hsum c)) (by omega) items.length (by omega)

theorem l_same4 {p : Pth} (hc : p.segs.length <= 1000000) : ∀ (k i : Nat), i + k = p.segs.length ->
  Qbl Qie (I p.segs.length :: I i :: (pthR p ++ pthR p)) = some (2, pthR p ++ pthR p)
 | 0, i, hi => by
  refine Qbn ?_ (by simp)
  simp only [pthR, List.cons_append, List.nil_append]
  rw [st_cncref25_SamePath_4_eq, Qcs (by omega)]
 | k + 1, i, hi => by
  have hlt : i < p.segs.length := by omega
  have hr := row_sg hlt
  have hin : (0 : Int) <= (i : Int) /\ (i : Int) < (p.segs.length : Int) := by omega
  have hst : Qie (I p.segs.length :: I i :: (pthR p ++ pthR p)) = some (0, I p.segs.length :: I (i + 1 : Nat) :: (pthR p ++ pthR p)) := by
   simp only [pthR, List.cons_append, List.nil_append]
   rw [st_cncref25_SamePath_4_eq]
   simp only [go_sem, List.length_map, Int.toNat_natCast, hr, if_pos hin]
   rw [if_pos (by omega), if_neg (by simp), Qab (by omega)]
   rfl
  rw [Qbk hst]
  exact l_same4 hc k (i + 1) (by omega)
theorem l_same10 {N : List AC -> Option (Nat × List AC)} {p : Pth} (hc : p.marks.length <= 1000000) : ∀ (k i : Nat), i + k = p.marks.length ->
  Qbl (Qhd N) (I p.marks.length :: I i :: (pthR p ++ pthR p)) = some (2, [])
 | 0, i, hi => by
  refine Qbn ?_ (by simp)
  simp only [pthR, List.cons_append, List.nil_append]
  rw [st_cncref25_SamePath_10_eq, Qcs (by omega)]
 | k + 1, i, hi => by
  have hlt : i < p.marks.length := by omega
  have hr := row_mk hlt
  have hin : (0 : Int) <= (i : Int) /\ (i : Int) < (p.marks.length : Int) := by omega
  have hst : Qhd N (I p.marks.length :: I i :: (pthR p ++ pthR p)) = some (0, I p.marks.length :: I (i + 1 : Nat) :: (pthR p ++ pthR p)) := by
   simp only [pthR, List.cons_append, List.nil_append]
   rw [st_cncref25_SamePath_10_eq]
   simp only [go_sem, List.length_map, Int.toNat_natCast, hr, if_pos hin]
   rw [if_pos (by omega), if_neg (by simp), Qab (by omega)]
   rfl
  rw [Qbk hst]
  exact l_same10 hc k (i + 1) (by omega)
theorem a_SamePath {N4 N10 : List AC -> Option (Nat × List AC)} {p : Pth} (h4 : N4 (I p.segs.length :: I 0 :: (pthR p ++ pthR p)) = some (2, pthR p ++ pthR p)) (h10 : N10 (I p.marks.length :: I 0 :: (pthR p ++ pthR p)) = some (2, [])) :
  mf_cncref25_SamePath N4 N10 (pthR p ++ pthR p) = some [B true] := by
 simp only [pthR, List.cons_append, List.nil_append] at h4 h10 ⊢
 rw [mf_cncref25_SamePath_eq]
 simp only [go_sem, List.length_map, h4, h10]
 rw [if_neg (by simp), if_neg (by simp), if_neg (by simp), if_neg (by decide), if_neg (by decide)]
theorem s_SamePath {p : Pth} (hc : p.segs.length <= 1000000) (hm : p.marks.length <= 1000000) : Qh9 (pthR p ++ pthR p) = some [B true] :=
 a_SamePath (N4 := Qix) (N10 := l_cncref25_SamePath_10) (l_same4 hc p.segs.length 0 (by omega)) (l_same10 hm p.marks.length 0 (by omega))
end Go.Bm
