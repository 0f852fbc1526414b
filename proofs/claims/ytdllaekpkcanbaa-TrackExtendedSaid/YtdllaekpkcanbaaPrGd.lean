/- laid together -/
import Derived.Test.YtdllaekpkcanbaaPrPe
import Derived.Test.YtdllaekpkcanbaaPrTf
import Derived.Test.YtdllaekpkcanbaaPrBd3
set_option linter.unusedVariables false
set_option linter.unusedSimpArgs false
/- the program's path of up to 15 items, and what is settled of it -/
set_option maxRecDepth 100000
namespace Go.Bm
open Classical

theorem l_path_check {MK MV MN MS MM MC : List AC -> Option (List AC)} {items : List Itm} (hM : ∀ k : Int, MM [I k] = some [B (decide (1 <= k /\ k <= 6))]) (hW : ∀ it, MC (itmR it) = some [I (if Qel it then 1 else 0)]) (hl : items.length <= 1000000) :
  ∀ (k i : Nat) (last : Int), i + k = items.length -> (last = -1 \/ (0 <= last /\ last < i)) ->
  (Qby (Qi0 MK MV MN MS MM MC) [.view kSgm [], .view kMrk [], .view kItm (items.map itmR), I last, .view kItm (items.map itmR), I items.length, I i, I 0, I 0, I 0, B false, I 0, I 0, I 0] = some (1, [.view kSgm [], .view kMrk [], I (chkF items k i last), I 0, I 0, I 0, B false, I 0, I 0, I 0]) /\ chkF items k i last ≠ 0) \/
  (Qby (Qi0 MK MV MN MS MM MC) [.view kSgm [], .view kMrk [], .view kItm (items.map itmR), I last, .view kItm (items.map itmR), I items.length, I i, I 0, I 0, I 0, B false, I 0, I 0, I 0] = some (2, [.view kSgm [], .view kMrk [], .view kItm (items.map itmR), I 0, I 0, I 0, B false, I 0, I 0, I 0]) /\ chkF items k i last = 0)
 | 0, i, last, hi, _ => by
  right
  refine ⟨Qb1 ?_ (by simp), rfl⟩
  rw [st_path_build_6_eq, Qbs (by omega)]
 | k + 1, i, last, hi, hla => by
  have hlt : i < items.length := by omega
  have hr := Qlw hlt
  have hw := hW (itA items i)
  have hm := hM (itA items i).kind
  have hin : (0 : Int) <= (i : Int) /\ (i : Int) < (items.length : Int) := by omega
  have hst : Qi0 MK MV MN MS MM MC [.view kSgm [], .view kMrk [], .view kItm (items.map itmR), I last, .view kItm (items.map itmR), I items.length, I i, I 0, I 0, I 0, B false, I 0, I 0, I 0] =
    if Qel (itA items i) then some (1, [.view kSgm [], .view kMrk [], I 1, I 0, I 0, I 0, B false, I 0, I 0, I 0]) else if motI (itA items i) then (if 0 <= last /\ (itA items last.toNat).to ≠ (itA items i).fr then some (1, [.view kSgm [], .view kMrk [], I 13, I 0, I 0, I 0, B false, I 0, I 0, I 0]) else some (0, [.view kSgm [], .view kMrk [], .view kItm (items.map itmR), I i, .view kItm (items.map itmR), I items.length, I (i + 1 : Nat), I 0, I 0, I 0, B false, I 0, I 0, I 0]))
    else some (0, [.view kSgm [], .view kMrk [], .view kItm (items.map itmR), I last, .view kItm (items.map itmR), I items.length, I (i + 1 : Nat), I 0, I 0, I 0, B false, I 0, I 0, I 0]) := by
   rw [st_path_build_6_eq]
   simp only [itmR] at hw
   simp only [go_sem, List.length_map, Int.toNat_natCast, hr, hw, hm, if_pos hin]
   rw [if_pos (by omega), Qab (by omega)]
   by_cases c1 : Qel (itA items i)
   ·simp only [if_pos c1]
    rw [if_pos (by omega)]
   simp only [if_neg c1]
   rw [if_neg (by simp)]
   by_cases c2 : motI (itA items i)
   ·rw [if_neg (fun h => h c2), if_pos c2]
    rcases hla with rfl | ⟨h1, h2⟩
    ·rw [if_neg (show ¬ (-1 : Int) >= 0 by omega), if_neg (fun h => by omega)]; rfl
    ·obtain ⟨L, rfl⟩ := Int.eq_ofNat_of_zero_le h1
     have hL : L < items.length := by omega
     have hin2 : (0 : Int) <= (L : Int) /\ (L : Int) < (items.length : Int) := by omega
     have hr2 := Qlw hL
     simp only [Int.toNat_natCast, hr2, go_sem, if_pos hin2]
     rw [if_pos (by omega)]
     by_cases c3 : (itA items L).to = (itA items i).fr
     ·have c4 := Qi5.1 c3
      rw [if_neg (fun h => h ⟨c4.1, c4.2.1, c4.2.2, trivial⟩), if_neg (fun h => h.2 c3)]; rfl
     ·rw [if_pos (fun h => c3 (Qi5.2 ⟨h.1, h.2.1, h.2.2.1⟩)), if_pos ⟨h1, c3⟩]
   ·rw [if_pos (show ¬ (1 <= (itA items i).kind /\ (itA items i).kind <= 6) from c2), if_neg c2]; rfl
  unfold chkF
  by_cases c1 : Qel (itA items i)
  ·rw [if_pos c1] at hst ⊢
   exact .inl ⟨Qb1 hst (by simp), by simp⟩
  ·rw [if_neg c1] at hst ⊢
   by_cases c2 : motI (itA items i)
   ·rw [if_pos c2] at hst ⊢
    by_cases c3 : 0 <= last /\ (itA items last.toNat).to ≠ (itA items i).fr
    ·rw [if_pos c3] at hst ⊢
     exact .inl ⟨Qb1 hst (by simp), by simp⟩
    ·rw [if_neg c3] at hst ⊢
     rw [Qbr hst]
     exact l_path_check hM hW hl k (i + 1) i (by omega) (.inr (by omega))
   ·rw [if_neg c2] at hst ⊢
    rw [Qbr hst]
    exact l_path_check hM hW hl k (i + 1) last (by omega) (by omega)

noncomputable def lastM (items : List Itm) : Nat -> Int
 | 0 => -1
 | i + 1 => if motI (itA items i) then i else lastM items i
theorem lastM_spec (items : List Itm) : ∀ i, lastM items i = -1 \/ ∃ L : Nat, lastM items i = L /\ L < i /\ motI (itA items L) /\ ∀ j, L < j -> j < i -> ¬ motI (itA items j)
 | 0 => .inl rfl
 | i + 1 => by
  unfold lastM
  by_cases c : motI (itA items i)
  ·rw [if_pos c]
   exact .inr ⟨i, rfl, by omega, c, fun j h1 h2 => by omega⟩
  ·rw [if_neg c]
   rcases lastM_spec items i with h | ⟨L, h1, h2, h3, h4⟩
   ·exact .inl h
   ·refine .inr ⟨L, h1, by omega, h3, fun j g1 g2 => ?_⟩
    by_cases e : j = i
    ·rw [e]; exact c
    ·exact h4 j g1 (by omega)
theorem frm_last (items : List Itm) : ∀ i, (Qal items i).frm = if 0 <= lastM items i /\ 0 <= Qfs items (lastM items i).toNat then lastM items i else -1
 | 0 => by rw [Qal, lastM, if_neg (by omega)]
 | i + 1 => by
  rw [Qal, lastM]
  unfold bStep
  by_cases c : motI (itA items i)
  ·rw [if_pos c, if_pos c]
   simp only [Int.toNat_natCast]
   by_cases c2 : 0 <= Qfs items i
   ·rw [if_pos c2, if_pos ⟨by omega, c2⟩]
   ·rw [if_neg c2, if_neg (fun h => c2 h.2)]
  ·rw [if_neg c, if_neg c]
   exact frm_last items i
theorem soft_here {items : List Itm} {i L : Nat} (hL : L < i) (hi : i < items.length) (hm : motI (itA items i)) (hno : ∀ j, L < j -> j < i -> ¬ motI (itA items j)) (hs : 0 <= Qfs items L) : nextN items L = i := by
 have h1 := soft_next hs
 rcases softK_spec items L with h | ⟨-, -, k, k1, k2, k3, k4, k5⟩
 ·omega
 ·have hk : nextN items L = k := by omega
  rw [hk]
  rcases Nat.lt_trichotomy k i with h | h | h
  ·exact absurd ⟨by have := k4.1; omega, by have := k4.1; omega⟩ (hno k k2 h)
  ·exact h
  ·have := k5 i hL h
   have := hm.2
   omega
noncomputable def midN (items : List Itm) : Nat -> Int
 | 0 => 0
 | i + 1 => if motI (itA items i) then (motM items i (Qal items i) (midN items i)).2 else midN items i
theorem frm_begun (items : List Itm) : ∀ i, (Qal items i).begun = false -> (Qal items i).frm = -1
 | 0, _ => by rw [Qal]
 | i + 1, h => by
  rw [Qal] at h ⊢
  unfold bStep at h ⊢
  by_cases c : motI (itA items i)
  ·rw [if_pos c] at h; cases h
  ·rw [if_neg c] at h ⊢
   exact frm_begun items i h
noncomputable abbrev pbR (items : List Itm) (i : Nat) : List AC :=
 [.view kSgm ((Qal items i).segs.map sgmR), .view kMrk ((Qal items i).marks.map mrkR), .view kItm (items.map itmR), I (lastM items i), .view kItm (items.map itmR), I items.length, I i, I (Qal items i).start.x, I (Qal items i).start.y, I (Qal items i).start.z, B (Qal items i).begun, I (Qal items i).len, I (Qal items i).speed, I (midN items i)]
theorem st_build18 {MK MV MN MS MM MC : List AC -> Option (List AC)} {N6 : List AC -> Option (Nat × List AC)} {items : List Itm} {i : Nat} (hi : i < items.length) (hlen : items.length <= 15) (hmk : (Qal items i).marks.length = i)
  (hM : ∀ k : Int, MM [I k] = some [B (decide (1 <= k /\ k <= 6))]) (hS : ∀ L : Nat, L < items.length -> MS [.view kItm (items.map itmR), I L] = some [B (decide (0 <= Qfs items L))]) (hN : ∀ L : Nat, L < items.length -> MN [.view kItm (items.map itmR), I L] = some [I (nextN items L)])
  (hV : motI (itA items i) -> MV [.view kSgm ((Qal items i).segs.map sgmR), .view kMrk ((Qal items i).marks.map mrkR), .view kItm (items.map itmR), I i, I (Qal items i).frm, I (Qal items i).start.x, I (Qal items i).start.y, I (Qal items i).start.z, B (Qal items i).begun, I (Qal items i).len, I (Qal items i).speed, I (midN items i)] =
   some [.view kSgm ((motM items i (Qal items i) (midN items i)).1.1.map sgmR), .view kMrk ((Qal items i).marks.map mrkR), B true, I (if (Qal items i).begun = true then (Qal items i).start else fine (itA items i).fr).x, I (if (Qal items i).begun = true then (Qal items i).start else fine (itA items i).fr).y, I (if (Qal items i).begun = true then (Qal items i).start else fine (itA items i).fr).z, B true,
    I (motM items i (Qal items i) (midN items i)).1.2.1, I (Qal items i).speed, I (motM items i (Qal items i) (midN items i)).2])
  (hK : ∀ {segs : List (List AC)} {st : Pt} {b : Bool} {len sp mid : Int}, MK [.view kSgm segs, .view kMrk ((Qal items i).marks.map mrkR), .view kItm (items.map itmR), I i, I st.x, I st.y, I st.z, B b, I len, I sp, I mid] =
   some [.view kSgm segs, .view kMrk (((Qal items i).marks ++ [(⟨len, markK items i, i⟩ : Mrk)]).map mrkR), I st.x, I st.y, I st.z, B b, I len, I sp, I mid]) :
  Qhr MK MV MN MS MM MC N6 (pbR items i) = some (0, pbR items (i + 1)) := by
 have hr := Qlw hi
 have hin : (0 : Int) <= (i : Int) /\ (i : Int) < (items.length : Int) := by omega
 have hw : IntKind.i64.wrap ((i : Int) + 1) = ((i + 1 : Nat) : Int) := by rw [Qab (by omega)]; omega
 have hf := frm_last items i
 have hls := lastM_spec items i
 have hfst := motM_fst items i (Qal items i) (midN items i)
 have e1 : lastM items (i + 1) = if motI (itA items i) then (i : Int) else lastM items i := rfl
 have e2 : midN items (i + 1) = if motI (itA items i) then (motM items i (Qal items i) (midN items i)).2 else midN items i := rfl
 have e3 : Qal items (i + 1) = bStep items i (Qal items i) := rfl
 unfold pbR
 rw [e1, e2, e3]
 generalize Qal items i = s at *
 generalize lastM items i = last at *
 generalize hmi : midN items i = mid at *
 unfold bStep
 rw [st_path_build_18_eq]
 by_cases hm : motI (itA items i)
 ·have h8 : ¬ (itA items i).kind = 8 := fun h => by have := hm.2; omega
  have hV := hV hm
  have hmk2 : markK items i = kindK items i := if_pos hm
  rw [if_pos hm, if_pos hm, if_pos hm]
  rw [hfst] at hV
  have hM2 : MM [I (itA items i).kind] = some [B true] := by rw [hM, decide_eq_true (show 1 <= (itA items i).kind /\ (itA items i).kind <= 6 from hm)]
  simp only [go_sem, List.length_map, Int.toNat_natCast, hr, if_pos hin, hM2]
  rw [if_pos (by omega), if_neg h8]
  have hbef : ∀ {x : Option (Nat × List AC)} {frm : Int}, s.frm = frm -> (MV [.view kSgm (s.segs.map sgmR), .view kMrk (s.marks.map mrkR), .view kItm (items.map itmR), I i, I frm, I s.start.x, I s.start.y, I s.start.z, B s.begun, I s.len, I s.speed, I mid]) =
    some [.view kSgm ((motS items i s).1.map sgmR), .view kMrk (s.marks.map mrkR), B true, I (if s.begun = true then s.start else fine (itA items i).fr).x, I (if s.begun = true then s.start else fine (itA items i).fr).y, I (if s.begun = true then s.start else fine (itA items i).fr).z, B true, I (motS items i s).2.1, I s.speed, I (motM items i s mid).2] := by
   intro x frm h; rw [<- h]; exact hV
  rcases hls with hls | ⟨L, h1, h2, h3, h4⟩
  ·rw [hls]
   rw [hls, if_neg (by omega)] at hf
   rw [if_neg (show ¬ (-1 : Int) >= 0 by omega)]
   have hv := hbef (x := none) hf
   simp only [hv, go_sem, hK, hw, hmk2]
   simp
  ·rw [h1] at hf ⊢
   rw [Int.toNat_natCast] at hf
   have hs := hS L (by omega)
   have hn := hN L (by omega)
   rw [if_pos (show (L : Int) >= 0 by omega)]
   by_cases c : 0 <= Qfs items L
   ·have hnx := soft_here h2 hi hm h4 c
    rw [if_pos ⟨by omega, c⟩] at hf
    rw [hnx] at hn
    rw [decide_eq_true c] at hs
    have hv := hbef (x := none) hf
    simp only [hs, hn, go_sem]
    simp only [hv, go_sem, hK, hw, hmk2]
    simp
   ·rw [if_neg (fun h => c h.2)] at hf
    rw [decide_eq_false c] at hs
    have hv := hbef (x := none) hf
    simp only [hs, go_sem]
    simp only [hv, go_sem, hK, hw, hmk2]
    simp
 ·have hmk2 : markK items i = otherK (itA items i) := if_neg hm
  rw [if_neg hm, if_neg hm, if_neg hm]
  have hM2 : MM [I (itA items i).kind] = some [B false] := by rw [hM, decide_eq_false (show ¬ (1 <= (itA items i).kind /\ (itA items i).kind <= 6) from hm)]
  unfold spdI
  simp only [go_sem, List.length_map, Int.toNat_natCast, hr, if_pos hin, hM2, hK, hw, hmk2]
  rw [if_pos (by omega)]
  by_cases h8 : (itA items i).kind = 8
  ·by_cases h3 : (itA items i).n = 3
   ·simp [h8, h3]
   ·by_cases h4 : (itA items i).n = 4
    ·simp [h8, h4]
    ·simp [h8, h3, h4]
  ·simp [h8]
end Go.Bm
/- the program builds the reference's path, and what is settled of it -/
set_option maxRecDepth 100000
namespace Go.Bm
open Classical

theorem s_path_RateM {it : Itm} {speed : Int} (hf : it.kind = 1 \/ 1 <= it.feed /\ it.feed <= 60000000) (hs : 0 <= speed /\ speed <= 30000) : Qiy (itmR it ++ [I speed]) = some [I (rate it speed)] := by
 by_cases h1 : it.kind = 1
 ·unfold Qiy rate
  generalize Qbh = M
  have h := mf_path_Rate_eq (Qak := M) it.kind it.block it.fr.x it.fr.y it.fr.z it.to.x it.to.y it.to.z it.plane it.ce.x it.ce.y it.ce.z it.dir it.full it.feed it.perRev it.side it.radius it.blend it.n it.speed it.on speed
  rw [if_pos h1]
  refine Eq.trans h ?_
  rw [Qj4 (by simp [h1])]
 ·exact s_path_Rate (by omega) hs
theorem s_path_add {segs : List Sgm} {marks : List (List AC)} {q g st at_ : Pt} {gl item feed lead len sp mid : Int} (hat : endOf st segs = at_) (h1 : bd 67108864 at_) (h2 : bd 67108864 q) (hs : segs.length + 1 <= 1048577) (hlen : 0 <= len /\ len <= 4000000000000000000) :
  Qew [.view kSgm (segs.map sgmR), .view kMrk marks, I q.x, I q.y, I q.z, I g.x, I g.y, I g.z, I gl, I item, I feed, I lead, I st.x, I st.y, I st.z, B true, I len, I sp, I mid] =
   some [.view kSgm ((Qeu item feed lead (segs, len, at_) q).1.map sgmR), .view kMrk marks, I st.x, I st.y, I st.z, B true, I (Qeu item feed lead (segs, len, at_) q).2.1, I sp, I mid] :=
 a_path_add hat (s_curve_Length h1 h2) (len_bd h1 h2) hs hlen
theorem step_18 {items : List Itm} (hlen : items.length <= 15) (hright : ∀ j < items.length, ¬ Qel (itA items j)) {i : Nat} (hi : i < items.length) :
  Qhr Qcq Qc6 Qdw Qex Qbo Qga Qky (pbR items i) = some (0, pbR items (i + 1)) := by
 have hb := buildN_ok hright i (by omega)
 have hin := buildN_inv hright i (by omega)
 have hall : ∀ k < items.length, motI (itA items k) -> drawn (itA items k) := fun k hk hm => (right_mot (hright k hk) hm).1
 have hrm := right_mot (hright i hi)
 refine st_build18 hi hlen hb.marks Qmk (fun L hL => s_path_soft (by omega) hL) (fun L hL => s_path_next (by omega) hL) (fun hm => ?_) (s_path_mark (by omega) hi (by have := hb.marks; omega))
 have hd := (hrm hm).1
 exact a_path_move hi hlen hd.1 hb hin (points_bd hd hb.frm hall) (fun hs => by have h2 := (hrm hm).2; rcases hs with h | h <;> omega) (frm_begun items i) (s_path_smooth _) (s_path_middle hd.1.2.1 hd.1.2.2.1) (s_path_geared _) (s_path_RateM (hrm hm).2 hb.speed)
  (s_path_points (by omega) hi hd hb.frm hall) (fun h1 h2 h3 h4 h5 => s_path_add h1 h2 h3 h4 h5) a_path_add0
theorem loop_18 {items : List Itm} (hlen : items.length <= 15) (hright : ∀ j < items.length, ¬ Qel (itA items j)) : ∀ (k i : Nat), i + k = items.length ->
  Qby (Qhr Qcq Qc6 Qdw Qex Qbo Qga Qky) (pbR items i) =
   some (2, [.view kSgm ((Qdf items).segs.map sgmR), .view kMrk ((Qdf items).marks.map mrkR), I (Qdf items).start.x, I (Qdf items).start.y, I (Qdf items).start.z, B (Qal items items.length).begun, I (Qal items items.length).len, I (Qal items items.length).speed, I (midN items items.length)])
 | 0, i, hi => by
  obtain rfl : i = items.length := by omega
  refine Qb1 ?_ (by simp)
  unfold pbR Qdf
  rw [st_path_build_18_eq, Qbs (by omega)]
 | k + 1, i, hi => by
  rw [Qbr (step_18 hlen hright (by omega))]
  exact loop_18 hlen hright k (i + 1) (by omega)
def builtR (items : List Itm) (o : List AC) : Prop :=
 if Qkz items = 0 then o = [.view kSgm ((Qdf items).segs.map sgmR), .view kMrk ((Qdf items).marks.map mrkR), I 0, I (Qdf items).start.x, I (Qdf items).start.y, I (Qdf items).start.z, B (Qal items items.length).begun, I (Qal items items.length).len, I (Qal items items.length).speed, I (midN items items.length)]
 else o = [.view kSgm [], .view kMrk [], I (Qkz items), I 0, I 0, I 0, B false, I 0, I 0, I 0]
theorem a_path_build {MK MV MN MS MM MC : List AC -> Option (List AC)} {N6 N18 : List AC -> Option (Nat × List AC)} {items : List Itm} (hlen : items.length <= 15)
  (h6 : (N6 [.view kSgm [], .view kMrk [], .view kItm (items.map itmR), I (-1), .view kItm (items.map itmR), I items.length, I 0, I 0, I 0, I 0, B false, I 0, I 0, I 0] = some (1, [.view kSgm [], .view kMrk [], I (Qkz items), I 0, I 0, I 0, B false, I 0, I 0, I 0]) /\ Qkz items ≠ 0) \/
   (N6 [.view kSgm [], .view kMrk [], .view kItm (items.map itmR), I (-1), .view kItm (items.map itmR), I items.length, I 0, I 0, I 0, I 0, B false, I 0, I 0, I 0] = some (2, [.view kSgm [], .view kMrk [], .view kItm (items.map itmR), I 0, I 0, I 0, B false, I 0, I 0, I 0]) /\ Qkz items = 0))
  (h18 : Qkz items = 0 -> N18 [.view kSgm [], .view kMrk [], .view kItm (items.map itmR), I (-1), .view kItm (items.map itmR), I items.length, I 0, I 0, I 0, I 0, B false, I 0, I 0, I 0] =
   some (2, [.view kSgm ((Qdf items).segs.map sgmR), .view kMrk ((Qdf items).marks.map mrkR), I (Qdf items).start.x, I (Qdf items).start.y, I (Qdf items).start.z, B (Qal items items.length).begun, I (Qal items items.length).len, I (Qal items items.length).speed, I (midN items items.length)])) :
  ∃ o, mf_path_build MK MV MN MS MM MC N6 N18 [.view kItm (items.map itmR)] = some o /\ builtR items o := by
 rw [mf_path_build_eq]
 have hin : ¬ ((items.length : Int) > 20000) := by omega
 rcases h6 with ⟨h, hc⟩ | ⟨h, hc⟩
 ·simp only [go_sem, List.length_map, h, if_neg hin]
  exact ⟨_, rfl, by unfold builtR; rw [if_neg hc]⟩
 ·have g := h18 hc
  simp only [go_sem, List.length_map, h, if_neg hin, g]
  rw [if_neg (by decide), if_neg (by decide)]
  exact ⟨_, rfl, by unfold builtR; rw [if_pos hc]⟩
theorem s_path_build {items : List Itm} (hlen : items.length <= 15) : ∃ o, Qgd [.view kItm (items.map itmR)] = some o /\ builtR items o := by
 have hc : Qkz items = chkF items items.length 0 (-1) := by unfold Qkz; rw [if_neg (by omega)]
 refine a_path_build hlen ?_ fun he => loop_18 hlen (check_right he).2 items.length 0 (by omega)
 rw [hc]
 exact l_path_check Qmk s_path_check (by omega) items.length 0 (-1) (by omega) (.inl rfl)
theorem a_path_Build {MB : List AC -> Option (List AC)} {items : List Itm} (h : ∃ o, MB [.view kItm (items.map itmR)] = some o /\ builtR items o) :
  mf_path_Build MB [.view kItm (items.map itmR)] = if Qkz items = 0 then some (pthR (Qdf items) ++ [I 0]) else some [I 0, I 0, I 0, .view kSgm [], .view kMrk [], I (Qkz items)] := by
 obtain ⟨o, h1, h2⟩ := h
 rw [mf_path_Build_eq, h1]
 unfold builtR at h2
 by_cases c : Qkz items = 0
 ·rw [if_pos c] at h2 ⊢
  subst h2
  simp only [go_sem]
  rw [if_neg (by simp)]
  rfl
 ·rw [if_neg c] at h2 ⊢
  subst h2
  simp only [go_sem]
  rw [if_pos c]
theorem s_path_Build {items : List Itm} (hlen : items.length <= 15) : m_path_Build [.view kItm (items.map itmR)] = if Qkz items = 0 then some (pthR (Qdf items) ++ [I 0]) else some [I 0, I 0, I 0, .view kSgm [], .view kMrk [], I (Qkz items)] :=
 a_path_Build (s_path_build hlen)
end Go.Bm
/- where the motions of a path end -/
set_option maxRecDepth 100000
namespace Go.Bm
open Classical

theorem fold_last {item feed lead : Int} (l : List Pt) (q : Pt) (s : List Sgm × Int × Pt) : ((l ++ [q]).foldl (Qeu item feed lead) s).2.2 = q := by
 rw [List.foldl_append, List.foldl_cons, List.foldl_nil]
 generalize l.foldl (Qeu item feed lead) s = t
 unfold Qeu
 split
 ·rename_i c; exact c.symm
 ·rfl
theorem fold_pre {item feed lead : Int} : ∀ (pts : List Pt) (s : List Sgm × Int × Pt), ∃ l, (pts.foldl (Qeu item feed lead) s).1 = s.1 ++ l
 | [], s => ⟨[], by simp⟩
 | q :: pts, s => by
  rw [List.foldl_cons]
  obtain ⟨l, hl⟩ := fold_pre (item := item) (feed := feed) (lead := lead) pts (Qeu item feed lead s q)
  rw [hl]
  unfold Qeu
  split
  ·exact ⟨l, rfl⟩
  ·exact ⟨_ :: l, (List.append_assoc _ _ _).trans rfl⟩
theorem step_pre (items : List Itm) (i : Nat) (s : BSt) : ∃ l, (bStep items i s).segs = s.segs ++ l := by
 unfold bStep
 split
 ·exact fold_pre _ _
 ·exact ⟨[], by simp⟩
theorem build_pre (items : List Itm) (i : Nat) : ∀ k, ∃ l, (Qal items (i + k)).segs = (Qal items i).segs ++ l
 | 0 => ⟨[], by simp⟩
 | k + 1 => by
  obtain ⟨l, hl⟩ := build_pre items i k
  obtain ⟨m, hm⟩ := step_pre items (i + k) (Qal items (i + k))
  refine ⟨l ++ m, ?_⟩
  show (bStep items (i + k) (Qal items (i + k))).segs = _
  rw [hm, hl, List.append_assoc]
theorem begun_step {items : List Itm} {i : Nat} {s : BSt} (h : s.begun = true) : (bStep items i s).begun = true /\ (bStep items i s).start = s.start := by
 unfold bStep
 split
 ·exact ⟨rfl, by simp [h]⟩
 ·exact ⟨h, rfl⟩
theorem begun_steps {items : List Itm} {i : Nat} (h : (Qal items i).begun = true) : ∀ k, (Qal items (i + k)).begun = true /\ (Qal items (i + k)).start = (Qal items i).start
 | 0 => ⟨h, rfl⟩
 | k + 1 => by
  obtain ⟨h1, h2⟩ := begun_steps h k
  obtain ⟨h3, h4⟩ := begun_step (items := items) (i := i + k) h1
  exact ⟨h3, h4.trans h2⟩
theorem sum_nn {l : List Sgm} (h : ∀ g ∈ l, 1 <= g.len) : 0 <= Qay l := by
 induction l with
 | nil => simp [Qay]
 | cons k l ih =>
  have := ih fun g hg => h g (by simp [hg])
  have := h k (by simp)
  simp only [Qay]; omega
theorem sum_app (l m : List Sgm) : Qay (l ++ m) = Qay l + Qay m := by
 induction l with
 | nil => simp [Qay]
 | cons k l ih => simp only [List.cons_append, Qay, ih]; omega
theorem atL_app {l m : List Sgm} : ∀ {a : Pt} {s : Int}, (∀ g ∈ l, 1 <= g.len) -> 0 <= s -> atL a (l ++ m) s = if s < Qay l then atL a l s else atL (endOf a l) m (s - Qay l) := by
 induction l with
 | nil =>
  intro a s _ hs
  have e : Qay ([] : List Sgm) = 0 := rfl
  rw [e, if_neg (by omega), Int.sub_zero]
  rfl
 | cons g l ih =>
  intro a s h hs
  have hg := h g (by simp)
  have hl := sum_nn fun k hk => h k (List.mem_cons_of_mem _ hk)
  have e1 : Qay (g :: l) = g.len + Qay l := rfl
  have e2 : endOf a (g :: l) = endOf g.to l := rfl
  have e3 : ∀ k, atL a (g :: k) s = if s < g.len then midP a g s else atL g.to k (s - g.len) := fun _ => rfl
  rw [e1, e2, List.cons_append, e3, e3]
  by_cases c : s < g.len
  ·rw [if_pos c, if_pos (by omega), if_pos c]
  ·rw [if_neg c, if_neg c, ih (fun k hk => h k (List.mem_cons_of_mem _ hk)) (by omega)]
   by_cases c2 : s - g.len < Qay l
   ·rw [if_pos c2, if_pos (by omega)]
   ·rw [if_neg c2, if_neg (by omega), show s - g.len - Qay l = s - (g.len + Qay l) by omega]
end Go.Bm
/- what is settled of a path -/
set_option maxRecDepth 100000
namespace Go.Bm
open Classical

def lastNO (items : List Itm) : Nat -> Option Nat
 | 0 => none
 | i + 1 => if (itA items i).kind = 10 then lastNO items i else some i
noncomputable def Qea (items : List Itm) : Int :=
 match lastNO items items.length with
 | some i => if smI (itA items i) /\ (itA items i).blend ≠ 0 then Qay (Qdf items).segs - lenP (Qbz (itA items i)) (fine (itA items i).to) else Qay (Qdf items).segs
 | none => Qay (Qdf items).segs
theorem lastNO_spec {items : List Itm} {i : Nat} : ∀ {n : Nat}, lastNO items n = some i -> i < n /\ (itA items i).kind ≠ 10 /\ ∀ j, i < j -> j < n -> (itA items j).kind = 10
 | 0, h => by cases h
 | n + 1, h => by
  unfold lastNO at h
  split at h
  ·rename_i c
   obtain ⟨h1, h2, h3⟩ := lastNO_spec h
   refine ⟨by omega, h2, fun j g1 g2 => ?_⟩
   by_cases e : j = n
   ·rw [e]; exact c
   ·exact h3 j g1 (by omega)
  ·rename_i c
   cases h
   exact ⟨by omega, c, fun j g1 g2 => by omega⟩
theorem out_step {items : List Itm} {i : Nat} (h : (itA items i).kind = 10) : (Qal items (i + 1)).len = (Qal items i).len /\ midN items (i + 1) = midN items i := by
 have hm : ¬ motI (itA items i) := fun g => by have := g.2; omega
 constructor
 ·rw [Qal]; unfold bStep; rw [if_neg hm]
 ·rw [midN, if_neg hm]
theorem out_steps {items : List Itm} {i : Nat} : ∀ (k : Nat), (∀ j, i <= j -> j < i + k -> (itA items j).kind = 10) -> (Qal items (i + k)).len = (Qal items i).len /\ midN items (i + k) = midN items i
 | 0, _ => ⟨rfl, rfl⟩
 | k + 1, h => by
  obtain ⟨h1, h2⟩ := out_steps k fun j g1 g2 => h j g1 (by omega)
  obtain ⟨h3, h4⟩ := out_step (h (i + k) (by omega) (by omega))
  exact ⟨h3.trans h1, h4.trans h2⟩
theorem sum_len {items : List Itm} (hright : ∀ j < items.length, ¬ Qel (itA items j)) : Qay (Qdf items).segs = (Qal items items.length).len := by
 have h := buildN_inv hright items.length (Nat.le_refl _)
 unfold Qdf
 by_cases hb : (Qal items items.length).begun = true
 ·exact (h.begun hb).2.2.2
 ·obtain ⟨g1, g2, -⟩ := h.empty (by simpa using hb)
  simp only [g1, g2]
  rfl
theorem center_ne {it : Itm} (h : it.fr ≠ it.to) : fine it.to ≠ Qbz it := by
 intro g
 unfold fine Qbz at g
 injection g with g1 g2 g3
 exact h (Qi5.2 ⟨by omega, by omega, by omega⟩)
theorem stepM_center (it : Itm) (h : smI it) (item feed lead : Int) (s : (List Sgm × Int × Pt) × Int) :
  (stepM it item feed lead (stepM it item feed lead s (Qbz it)) (fine it.to)).2 = (stepM it item feed lead (stepM it item feed lead s (Qbz it)) (fine it.to)).1.2.1 - lenP (Qbz it) (fine it.to) := by
 have hne := center_ne h.2
 have h1 : (stepM it item feed lead s (Qbz it)).2 = (Qeu item feed lead s.1 (Qbz it)).2.1 := if_pos ⟨h, rfl⟩
 have h2 : (Qeu item feed lead s.1 (Qbz it)).2.2 = Qbz it := by
  unfold Qeu
  split
  ·rename_i c; exact c.symm
  ·rfl
 have h3 : (stepM it item feed lead s (Qbz it)).1 = Qeu item feed lead s.1 (Qbz it) := rfl
 generalize stepM it item feed lead s (Qbz it) = t at *
 have h4 : (stepM it item feed lead t (fine it.to)).2 = t.2 := if_neg fun g => hne g.2
 have h5 : (stepM it item feed lead t (fine it.to)).1 = Qeu item feed lead t.1 (fine it.to) := rfl
 rw [h4, h5, h1, h3]
 rw [<- h2] at hne ⊢
 rw [h2]
 generalize Qeu item feed lead s.1 (Qbz it) = u at *
 have h6 : Qeu item feed lead u (fine it.to) = (u.1 ++ [⟨fine it.to, lenP u.2.2 (fine it.to), item, feed, lead⟩], u.2.1 + lenP u.2.2 (fine it.to), fine it.to) := if_neg hne
 rw [h6, h2]
 simp only
 omega
theorem mid_set {items : List Itm} {i : Nat} (hn : lastNO items items.length = some i) (hs : smI (itA items i)) : midN items items.length = (Qal items items.length).len - lenP (Qbz (itA items i)) (fine (itA items i).to) := by
 obtain ⟨h1, -, h3⟩ := lastNO_spec hn
 obtain ⟨k, hk⟩ : ∃ k, items.length = i + 1 + k := ⟨items.length - (i + 1), by omega⟩
 have hm : motI (itA items i) := ⟨by have := hs.1; omega, by have := hs.1; omega⟩
 obtain ⟨g1, g2⟩ := out_steps (items := items) (i := i + 1) k fun j e1 e2 => h3 j (by omega) (by omega)
 have hsoft : ¬ 0 <= Qfs items i := by
  intro c
  have hx := soft_next c
  rcases softK_spec items i with h | ⟨-, -, m, m1, m2, m3, m4, m5⟩
  ·omega
  ·have := h3 m m2 m3
   have := m4.1
   omega
 rw [hk, g1, g2]
 have e1 : midN items (i + 1) = (motM items i (Qal items i) (midN items i)).2 := if_pos hm
 have e2 : (Qal items (i + 1)).len = (motM items i (Qal items i) (midN items i)).1.2.1 := by
  rw [motM_fst, Qal]; unfold bStep; rw [if_pos hm]
 rw [e1, e2]
 unfold motM
 have e3 : Qei items i (Qal items i).frm = headP items i (Qal items i).frm ++ [Qbz (itA items i)] ++ [fine (itA items i).to] := by
  unfold Qei
  rw [if_pos hs]
  unfold tailP
  rw [if_neg hsoft]
  unfold Qgo
  rw [if_neg (by have := hs.1; omega)]
  rfl
 rw [e3, List.foldl_append, List.foldl_append, List.foldl_cons, List.foldl_nil, List.foldl_cons, List.foldl_nil]
 exact stepM_center _ hs _ _ _ _
theorem l_path_Settled {MS MB : List AC -> Option (List AC)} {items : List Itm} {segs marks : List (List AC)} {st : Pt} {b : Bool} {len sp mid : Int} (hl : items.length <= 1000) (hS : ∀ it, MS (itmR it) = some [B (decide (smI it))]) :
  ∀ n : Nat, n <= items.length -> ∃ o : Nat × List AC, Qby (Qfh MS MB) [.view kSgm segs, .view kMrk marks, .view kItm (items.map itmR), I ((n : Int) - 1), I st.x, I st.y, I st.z, B b, I len, I sp, I mid] = some o /\
   match lastNO items n with
   | some i => o = (1, [I (if smI (itA items i) /\ (itA items i).blend ≠ 0 then mid else len)])
   | none => o = (2, [.view kSgm segs, .view kMrk marks, I st.x, I st.y, I st.z, B b, I len, I sp, I mid])
 | 0, _ => by
  refine ⟨_, Qb1 (o := (2, _)) ?_ (by simp), rfl⟩
  rw [st_path_Settled_5_eq, Qbs (by omega)]
 | n + 1, hn => by
  have hlt : n < items.length := by omega
  have hr := Qlw hlt
  have hs := hS (itA items n)
  simp only [itmR] at hs
  have hin : (0 : Int) <= (n : Int) /\ (n : Int) < (items.length : Int) := by omega
  have e : ((n + 1 : Nat) : Int) - 1 = n := by omega
  have hst : Qfh MS MB [.view kSgm segs, .view kMrk marks, .view kItm (items.map itmR), I n, I st.x, I st.y, I st.z, B b, I len, I sp, I mid] =
    if (itA items n).kind = 10 then some (0, [.view kSgm segs, .view kMrk marks, .view kItm (items.map itmR), I ((n : Int) - 1), I st.x, I st.y, I st.z, B b, I len, I sp, I mid])
    else some (1, [I (if smI (itA items n) /\ (itA items n).blend ≠ 0 then mid else len)]) := by
   rw [st_path_Settled_5_eq]
   simp only [go_sem, List.length_map, Int.toNat_natCast, hr, hs, if_pos hin]
   rw [if_pos (by omega), Qab (by omega)]
   by_cases c1 : (itA items n).kind = 10
   ·rw [if_pos c1, if_pos c1]
   ·rw [if_neg c1, if_neg c1]
    by_cases c2 : smI (itA items n)
    ·rw [if_pos c2]
     by_cases c3 : (itA items n).blend ≠ 0
     ·rw [if_pos c3, if_pos ⟨c2, c3⟩]
     ·rw [if_neg c3, if_neg (fun g => c3 g.2)]
    ·rw [if_neg c2, if_neg (fun g => c2 g.1)]
  rw [e]
  unfold lastNO
  by_cases c1 : (itA items n).kind = 10
  ·rw [if_pos c1] at hst ⊢
   rw [Qbr hst]
   exact l_path_Settled hl hS n (by omega)
  ·rw [if_neg c1] at hst ⊢
   exact ⟨_, Qb1 hst (by simp), rfl⟩
theorem a_path_Settled {MS MB : List AC -> Option (List AC)} {items : List Itm} (hl : items.length <= 15) (hS : ∀ it, MS (itmR it) = some [B (decide (smI it))]) (h : ∃ o, MB [.view kItm (items.map itmR)] = some o /\ builtR items o) :
  mf_path_Settled MS MB (Qby (Qfh MS MB)) [.view kItm (items.map itmR)] = some [I (if Qkz items = 0 then Qea items else 0)] := by
 obtain ⟨o, h1, h2⟩ := h
 unfold builtR at h2
 by_cases c : Qkz items = 0
 ·rw [if_pos c] at h2 ⊢
  have hright := (check_right c).2
  have hsum := sum_len hright
  have hmid := fun i hn hs => mid_set (items := items) (i := i) hn hs
  have hlp := @l_path_Settled MS MB items ((Qdf items).segs.map sgmR) ((Qdf items).marks.map mrkR) (Qdf items).start (Qal items items.length).begun (Qal items items.length).len (Qal items items.length).speed (midN items items.length) (by omega) hS items.length (by omega)
  obtain ⟨r, r1, r2⟩ := hlp
  rw [mf_path_Settled_eq, h1]
  subst h2
  have hw : IntKind.i64.wrap ((items.length : Int) - 1) = (items.length : Int) - 1 := Qab (by omega)
  unfold Qea
  rw [hsum]
  generalize Qby (Qfh MS MB) = N at *
  simp only [go_sem, List.length_map, hw, r1]
  rw [if_neg (by simp)]
  cases hn : lastNO items items.length with
  | none =>
   rw [hn] at r2
   simp only at r2
   subst r2
   rfl
  | some i =>
   rw [hn] at r2
   simp only at r2
   subst r2
   simp only [go_sem]
   by_cases c2 : smI (itA items i) /\ (itA items i).blend ≠ 0
   ·rw [if_pos c2, if_pos c2, hmid i hn c2.1]
   ·rw [if_neg c2, if_neg c2]
 ·rw [if_neg c] at h2 ⊢
  subst h2
  rw [mf_path_Settled_eq, h1]
  simp only [go_sem]
  rw [if_pos c]
theorem s_path_Settled {items : List Itm} (hl : items.length <= 15) : Qkq [.view kItm (items.map itmR)] = some [I (if Qkz items = 0 then Qea items else 0)] := a_path_Settled hl s_path_smooth (s_path_build hl)
end Go.Bm
/- which paths are valid: the program and the reference agree -/
set_option maxRecDepth 100000
namespace Go.Bm
open Classical

def segOne (item : Int) (a : Pt) (g : Sgm) : Prop := bd B24 g.to /\ g.to ≠ a /\ g.len = lenP a g.to /\ item <= g.item /\ (0 <= g.feed /\ g.feed <= 16777216) /\ (0 <= g.lead /\ g.lead <= 16777216)
def segsOK (item : Int) (a : Pt) : List Sgm -> Prop
 | [] => True
 | g :: l => segOne item a g /\ segsOK g.item g.to l
def markOne (last n : Int) (m : Mrk) : Prop := last <= m.at_ /\ m.at_ <= n /\ (1 <= m.kind /\ m.kind <= 6) /\ 0 <= m.item
def marksOK (last n : Int) : List Mrk -> Prop
 | [] => True
 | m :: l => markOne last n m /\ marksOK m.at_ n l
end Go.Bm
/- what the maker makes can be drawn -/
set_option maxRecDepth 100000
namespace Go.Bm

theorem rot_cases (r k : Int) : (rotU r k = r /\ rotW r k = 0) \/ (rotU r k = 0 /\ rotW r k = r) \/ (rotU r k = -r /\ rotW r k = 0) \/ (rotU r k = 0 /\ rotW r k = -r) := by
 have hc : k % 4 = 0 \/ k % 4 = 1 \/ k % 4 = 2 \/ k % 4 = 3 := by omega
 unfold rotU rotW
 rcases hc with h | h | h | h <;> simp [h]
theorem rot_sq (r k : Int) : sq2 (rotU r k) (rotW r k) = r * r := by
 unfold sq2
 rcases rot_cases r k with ⟨h1, h2⟩ | ⟨h1, h2⟩ | ⟨h1, h2⟩ | ⟨h1, h2⟩ <;> rw [h1, h2] <;> grind
theorem rot_turn {p q k t : Int} (ht : t = 1 \/ t = 2 \/ t = 3) (hp : 0 < p) (hq : 0 < q) : crs (rotU p k) (rotW p k) (rotU q (k + t)) (rotW q (k + t)) ≠ 0 \/ dt2 (rotU p k) (rotW p k) (rotU q (k + t)) (rotW q (k + t)) < 0 := by
 have hc : k % 4 = 0 \/ k % 4 = 1 \/ k % 4 = 2 \/ k % 4 = 3 := by omega
 have hpq : 0 < p * q := Int.mul_pos hp hq
 have hm : -p * q = -(p * q) /\ p * -q = -(p * q) /\ -p * -q = p * q := ⟨Int.neg_mul .., Int.mul_neg .., Int.neg_mul_neg ..⟩
 have e : ∀ j : Int, (k + t) % 4 = j -> ∀ i : Int, k % 4 = i -> crs (rotU p k) (rotW p k) (rotU q (k + t)) (rotW q (k + t)) = (if i = 0 then p else if i = 2 then -p else 0) * (if j = 1 then q else if j = 3 then -q else 0) - (if i = 1 then p else if i = 3 then -p else 0) * (if j = 0 then q else if j = 2 then -q else 0) /\
   dt2 (rotU p k) (rotW p k) (rotU q (k + t)) (rotW q (k + t)) = (if i = 0 then p else if i = 2 then -p else 0) * (if j = 0 then q else if j = 2 then -q else 0) + (if i = 1 then p else if i = 3 then -p else 0) * (if j = 1 then q else if j = 3 then -q else 0) := by
  intro j hj i hi
  subst hj hi
  exact ⟨rfl, rfl⟩
 rcases ht with rfl | rfl | rfl <;> rcases hc with h1 | h1 | h1 | h1
 ·obtain ⟨e1, e2⟩ := e 1 (by omega) _ h1
  simp at e1 e2; omega
 ·obtain ⟨e1, e2⟩ := e 2 (by omega) _ h1
  simp at e1 e2; omega
 ·obtain ⟨e1, e2⟩ := e 3 (by omega) _ h1
  simp at e1 e2; omega
 ·obtain ⟨e1, e2⟩ := e 0 (by omega) _ h1
  simp at e1 e2; omega
 ·obtain ⟨e1, e2⟩ := e 2 (by omega) _ h1
  simp at e1 e2; omega
 ·obtain ⟨e1, e2⟩ := e 3 (by omega) _ h1
  simp at e1 e2; omega
 ·obtain ⟨e1, e2⟩ := e 0 (by omega) _ h1
  simp at e1 e2; omega
 ·obtain ⟨e1, e2⟩ := e 1 (by omega) _ h1
  simp at e1 e2; omega
 ·obtain ⟨e1, e2⟩ := e 3 (by omega) _ h1
  simp at e1 e2; omega
 ·obtain ⟨e1, e2⟩ := e 0 (by omega) _ h1
  simp at e1 e2; omega
 ·obtain ⟨e1, e2⟩ := e 1 (by omega) _ h1
  simp at e1 e2; omega
 ·obtain ⟨e1, e2⟩ := e 2 (by omega) _ h1
  simp at e1 e2; omega
theorem arc_turn {size : Int} {it : Itm} (h : ArcMade size it) : turnOK it := by
 obtain ⟨r, k, t, g, x, h1, h2, h3, h4, h5, h6, h7, h8, h9, h10, h11, h12, h13⟩ := h.ends
 have hp := h.plane
 have a1 : dU it it.fr = rotU r k := by unfold dU; rw [h12, (pl_sp hp).1]; omega
 have a2 : dW it it.fr = rotW r k := by unfold dW; rw [h12, (pl_sp hp).2.1]; omega
 have a3 : dU it it.to = rotU (r + g) (k + t) := by unfold dU; rw [h12, h13, (pl_sp hp).1, (pl_sp hp).1]; omega
 have a4 : dW it it.to = rotW (r + g) (k + t) := by unfold dW; rw [h12, h13, (pl_sp hp).2.1, (pl_sp hp).2.1]; omega
 have q1 : qA it = r * r := by unfold qA; rw [a1, a2, rot_sq]
 have q2 : qB it = (r + g) * (r + g) := by unfold qB; rw [a3, a4, rot_sq]
 have m1 : 64 <= r * r := by
  have := Int.mul_le_mul h1 h1 (by omega) (by omega)
  omega
 have m2 : 64 <= (r + g) * (r + g) := by
  have := Int.mul_le_mul (show (8 : Int) <= r + g by omega) (show (8 : Int) <= r + g by omega) (by omega) (by omega)
  omega
 unfold turnOK
 refine ⟨by omega, by omega, ?_, ?_, ?_⟩
 ·rw [q1, q2]
  unfold nearQ
  right
  have hg : g * g <= 16 := by
   have := Int.mul_le_mul h8 h8 h7 (by omega)
   omega
  have e1 : r * r + (r + g) * (r + g) - 16 = 2 * (r * (r + g)) + (g * g - 16) := by grind
  have hpos : 0 <= r * (r + g) := Int.mul_nonneg (by omega) (by omega)
  have hge : 64 <= r * (r + g) := by
   have := Int.mul_le_mul h1 (show (8 : Int) <= r + g by omega) (by omega) (by omega)
   omega
  have hgg : 0 <= g * g := Int.mul_nonneg h7 h7
  have e2 : 4 * (r * r) * ((r + g) * (r + g)) = (2 * (r * (r + g))) * (2 * (r * (r + g))) := by grind
  rw [e1, e2]
  generalize 2 * (r * (r + g)) = m at *
  exact Int.mul_self_le_mul_self (by omega) (by omega)
 ·intro hf
  rw [h11] at hf
  have ht := of_decide_eq_true hf
  rw [a1, a2, a3, a4, ht, h10 ht, Int.add_zero, Int.add_zero]
  exact ⟨rfl, rfl⟩
 ·intro hf
  rw [h11] at hf
  have ht := of_decide_eq_false hf
  unfold cAB dAB
  rw [a1, a2, a3, a4]
  exact rot_turn (by omega) (by omega) (by omega)
theorem made_valid {it : Itm} (h : Made it) (h1 : bd 1000000 it.fr) (h2 : bd 1000000 it.to) : Qkp it := by
 refine ⟨h.kind, Qbv h1 (by omega), Qbv h2 (by omega), fun h3 => ?_⟩
 have ha := h.arc h3
 exact ⟨ha.plane, ha.dir, Qbv (arc_bd ha (by omega) h1).2 (by omega), arc_turn ha⟩

end Go.Bm
/- the maker's lists of items of all kinds -/
set_option maxRecDepth 100000
namespace Go.Bm
open Classical

structure Oth (it : Itm) : Prop where
 kind : 7 <= it.kind /\ it.kind <= 14
 spin : it.kind = 8 -> 3 <= it.n /\ it.n <= 5 /\ 0 <= it.speed /\ it.speed <= 4000
 dwell : it.kind = 7 -> 0 <= it.n /\ it.n <= 4
 out : it.kind = 10 -> 0 <= it.n /\ it.n <= 15
def Link : Pt -> List Itm -> Prop
 | _, [] => True
 | p, it :: l => if motI it then it.fr = p /\ Link it.to l else Link p l
def lastL : Pt -> List Itm -> Pt
 | p, [] => p
 | p, it :: l => if motI it then lastL it.to l else lastL p l
theorem link_snoc {it : Itm} : ∀ {l : List Itm} {p : Pt}, Link p l -> (motI it -> it.fr = lastL p l) -> Link p (l ++ [it])
 | [], p, _, h => by
  simp only [List.nil_append, Link]
  split
  ·rename_i c; exact ⟨h c, trivial⟩
  ·trivial
 | a :: l, p, h1, h => by
  simp only [List.cons_append, Link] at h1 ⊢
  unfold lastL at h
  by_cases c : motI a
  ·rw [if_pos c] at h1 h ⊢
   exact ⟨h1.1, link_snoc h1.2 h⟩
  ·rw [if_neg c] at h1 h ⊢
   exact link_snoc h1 h
theorem Qjz {it : Itm} : ∀ {l : List Itm} {p : Pt}, lastL p (l ++ [it]) = if motI it then it.to else lastL p l
 | [], p => by simp only [List.nil_append, lastL]
 | a :: l, p => by
  simp only [List.cons_append, lastL]
  by_cases c : motI a
  ·rw [if_pos c, if_pos c]; exact Qjz
  ·rw [if_neg c, if_neg c]; exact Qjz
structure Items (A : Nat) (p : Pt) (l : List Itm) : Prop where
 link : Link p l
 made : ∀ it ∈ l, (motI it /\ Made it /\ blank it /\ bd A it.fr /\ bd A it.to) \/ Oth it
theorem items_snoc {A : Nat} {p : Pt} {l : List Itm} {it : Itm} (h : Items A p l) (h1 : motI it -> it.fr = lastL p l) (h2 : (motI it /\ Made it /\ blank it /\ bd A it.fr /\ bd A it.to) \/ Oth it) : Items A p (l ++ [it]) := by
 refine ⟨link_snoc h.link h1, fun i hi => ?_⟩
 simp only [List.mem_append, List.mem_singleton] at hi
 rcases hi with hi | rfl
 ·exact h.made i hi
 ·exact h2
theorem oth_mot {it : Itm} (h : Oth it) : ¬ motI it := fun g => by have := h.kind; have := g.2; omega

theorem a_other {MN : List AC -> Option (List AC)} {l : List (List AC)} (hN : NextOK l MN) (k : Nat) :
  ∃ (it : Itm) (k' : Nat), mf_cncmill_other MN [.view Qac l, I k] = some (itmR it ++ [.view Qac l, I k']) /\ k <= k' /\ Oth it := by
 rw [mf_cncmill_other_eq]
 obtain ⟨v0, k0, e0, a0, b0, c0, -, -⟩ := hN k (n := 8) (by omega)
 obtain ⟨v1, k1, e1, a1, b1, c1, -, -⟩ := hN k0 (n := 16) (by omega)
 obtain ⟨v2, k2, e2, a2, b2, c2, -, -⟩ := hN k1 (n := 2) (by omega)
 obtain ⟨v3, k3, e3, a3, b3, c3, -, -⟩ := hN k0 (n := 5) (by omega)
 obtain ⟨v4, k4, e4, a4, b4, c4, -, -⟩ := hN k0 (n := 3) (by omega)
 obtain ⟨v5, k5, e5, a5, b5, c5, -, -⟩ := hN k4 (n := 4000) (by omega)
 simp only [go_sem, e0, e1, e2, e3, e4, e5]
 rw [Qab (x := 3 + v4) (by omega)]
 have fin : ∀ (kd n sp : Int) (on : Bool) (k' : Nat), k <= k' -> Oth ⟨kd, 0, ⟨0, 0, 0⟩, ⟨0, 0, 0⟩, 0, ⟨0, 0, 0⟩, 0, false, 0, false, 0, 0, 0, n, sp, on⟩ ->
   ∃ (it : Itm) (k'' : Nat), some [I kd, I 0, I 0, I 0, I 0, I 0, I 0, I 0, I 0, I 0, I 0, I 0, I 0, B false, I 0, B false, I 0, I 0, I 0, I n, I sp, B on, .view Qac l, I k'] = some (itmR it ++ [.view Qac l, I k'']) /\ k <= k'' /\ Oth it := by
  intro kd n sp on k' h1 h2
  exact ⟨_, k', rfl, h1, h2⟩
 by_cases c0 : v0 = 0
 ·rw [if_pos c0]; exact fin _ _ _ _ _ (by omega) ⟨by simp only; omega, by simp, by simp, fun _ => by simp only; omega⟩
 rw [if_neg c0]
 by_cases c1 : v0 = 1
 ·rw [if_pos c1]; exact fin _ _ _ _ _ (by omega) ⟨by simp only; omega, by simp, by simp, fun _ => by simp only; omega⟩
 rw [if_neg c1]
 by_cases c2 : v0 = 2
 ·rw [if_pos c2]; exact fin _ _ _ _ _ (by omega) ⟨by simp only; omega, by simp, fun _ => by simp only; omega, by simp⟩
 rw [if_neg c2]
 by_cases c3 : v0 = 3
 ·rw [if_pos c3]; exact fin _ _ _ _ _ (by omega) ⟨by simp only; omega, fun _ => by simp only; omega, by simp, by simp⟩
 rw [if_neg c3]
 by_cases c4 : v0 = 4
 ·rw [if_pos c4]; exact fin _ _ _ _ _ (by omega) ⟨by simp only; omega, by simp, by simp, by simp⟩
 rw [if_neg c4]
 by_cases c5 : v0 = 5
 ·rw [if_pos c5]; exact fin _ _ _ _ _ (by omega) ⟨by simp only; omega, by simp, by simp, by simp⟩
 rw [if_neg c5]
 by_cases c6 : v0 = 6
 ·rw [if_pos c6]; exact fin _ _ _ _ _ (by omega) ⟨by simp only; omega, by simp, by simp, by simp⟩
 rw [if_neg c6]
 exact fin _ _ _ _ _ (by omega) ⟨by simp only; omega, by simp, by simp, by simp⟩
theorem s_other_item {l : List (List AC)} (hl : Src l) (k : Nat) : ∃ (it : Itm) (k' : Nat), Qfk [.view Qac l, I k] = some (itmR it ++ [.view Qac l, I k']) /\ k <= k' /\ Oth it := a_other (nextOK hl) k
theorem kind_at8 {v : Int} (h : 0 <= v /\ v < 8) : ∃ x, Qaq (nth .dead (nth [] [[I 2], [I 2], [I 2], [I 3], [I 1], [I 6], [I 5], [I 4]] v.toNat) 0) = x /\ 1 <= x /\ x <= 6 := by
 have hc : v = 0 \/ v = 1 \/ v = 2 \/ v = 3 \/ v = 4 \/ v = 5 \/ v = 6 \/ v = 7 := by omega
 rcases hc with rfl | rfl | rfl | rfl | rfl | rfl | rfl | rfl <;> exact ⟨_, rfl, by decide⟩
theorem a_ItemsL {MM MO ML MN MF : List AC -> Option (List AC)} {l : List (List AC)} (hN : NextOK l MN)
  (hM : ∀ {p : Pt}, bd 100000000 p -> ∀ {kind : Int}, (1 <= kind /\ kind <= 6) -> ∀ k : Nat,
   ∃ (it : Itm) (k' : Nat), MM [I p.x, I p.y, I p.z, I kind, .view Qac l, I k] = some (itmR it ++ [.view Qac l, I k']) /\ k <= k' /\ it.fr = p /\ it.kind = kind /\ Made it /\ blank it)
  (hO : ∀ k : Nat, ∃ (it : Itm) (k' : Nat), MO [.view Qac l, I k] = some (itmR it ++ [.view Qac l, I k']) /\ k <= k' /\ Oth it)
  (hL : ∀ k : Nat, ML [.view Qac l, I k] = some [B (decide (k < l.length)), .view Qac l, I k]) {most : Int} {fin : Bool} (hm : most <= 100) {p : Pt} :
  ∀ s : List Itm × Nat, (Items (4 + 40 * 102) p s.1 /\ bd (4 + 40 * s.1.length) (lastL p s.1) /\ (s.1 = [] \/ s.1.length <= most + 1)) ->
   ∃ o, Qby (Qmt MM MO ML MN MF) [.view kItm (s.1.map itmR), I most, B fin, I (lastL p s.1).x, I (lastL p s.1).y, I (lastL p s.1).z, .view Qac l, I s.2] = some o /\ o.1 ≠ 0 /\
    ∃ items, o = (1, [.view kItm (items.map itmR), B fin]) /\ Items (4 + 40 * 102) p items /\ (items = [] \/ items.length <= most + 1) := by
 refine loop_nat (S := List Itm × Nat) (fun s => [.view kItm (s.1.map itmR), I most, B fin, I (lastL p s.1).x, I (lastL p s.1).y, I (lastL p s.1).z, .view Qac l, I s.2]) _ (fun s => l.length - s.2) _ ?_
 rintro ⟨items, k⟩ ⟨h1, h2, h3⟩
 simp only at h1 h2 h3
 simp only
 rw [st_cncmill_Items_4_eq]
 simp only [go_sem, hL, List.length_map]
 by_cases c1 : (items.length : Int) < most
 case neg =>
  rw [if_neg c1]
  exact .inr ⟨_, rfl, by simp, items, rfl, h1, h3⟩
 rw [if_pos c1]
 by_cases c2 : k < l.length
 case neg =>
  rw [if_neg (by simpa using c2)]
  exact .inr ⟨_, rfl, by simp, items, rfl, h1, h3⟩
 rw [if_pos (by simpa using c2)]
 obtain ⟨v, k1, e1, a1, b1, d1, d2, -⟩ := hN k (n := 12) (by omega)
 have d3 := d2 c2
 subst d3
 simp only [go_sem, e1]
 have hmost : items.length < 100 := by omega
 by_cases c3 : v < 4
 ·rw [if_pos c3]
  obtain ⟨it, k2, e2, g1, g2⟩ := hO (k + 1)
  have hnm := oth_mot g2
  simp only [go_sem, e2, itmR, List.cons_append, List.nil_append]
  rw [if_pos (by simp; omega)]
  left
  refine ⟨(items ++ [it], k2), ?_, ⟨items_snoc h1 (fun h => absurd h hnm) (.inr g2), ?_, .inr ?_⟩, ?_⟩
  ·simp only [Qjz, if_neg hnm, List.map_append, List.map_cons, List.map_nil, itmR]
  ·simp only [Qjz, if_neg hnm, List.length_append, List.length_singleton]
   exact Qbv h2 (by omega)
  ·simp only [List.length_append, List.length_singleton]; omega
  ·simp only; omega
 ·rw [if_neg c3, Qab (by omega)]
  obtain ⟨x, hx, hx1, hx2⟩ := kind_at8 (v := v - 4) (by omega)
  have hpb : bd 100000000 (lastL p items) := Qbv h2 (by omega)
  obtain ⟨it, k2, e2, g1, g2, g3, g4, g5⟩ := hM hpb (kind := x) (by omega) (k + 1)
  have hmo : motI it := by unfold motI; omega
  have hb2 := made_bd g4 (by rw [g2]; exact h2)
  rw [if_pos (by simp; omega)]
  simp only [go_sem, hx, e2, itmR, List.cons_append, List.nil_append]
  have hmade : (motI it /\ Made it /\ blank it /\ bd (4 + 40 * 102) it.fr /\ bd (4 + 40 * 102) it.to) \/ Oth it := .inl ⟨hmo, g4, g5, by rw [g2]; exact Qbv h2 (by omega), Qbv hb2 (by omega)⟩
  by_cases c5 : it.kind = 5
  ·rw [if_pos c5]
   obtain ⟨v3, k3, e3, a3, b3, d3, -, -⟩ := hN k2 (n := 2) (by omega)
   obtain ⟨v4, k4, e4, a4, b4, d4, -, -⟩ := hN k3 (n := 3000) (by omega)
   simp only [go_sem, e3, e4]
   rw [Qab (x := 3 + v3) (by omega), Qab (x := 200 + v4) (by omega)]
   rw [if_pos (by simp; omega), if_pos (by simp; omega)]
   have hsp : Oth ⟨8, 0, ⟨0, 0, 0⟩, ⟨0, 0, 0⟩, 0, ⟨0, 0, 0⟩, 0, false, 0, false, 0, 0, 0, 3 + v3, 200 + v4, false⟩ := ⟨by simp only; omega, fun _ => by simp only; omega, by simp, by simp⟩
   have hnm := oth_mot hsp
   have i1 := items_snoc h1 (fun h => absurd h hnm) (.inr hsp)
   left
   refine ⟨(items ++ [⟨8, 0, ⟨0, 0, 0⟩, ⟨0, 0, 0⟩, 0, ⟨0, 0, 0⟩, 0, false, 0, false, 0, 0, 0, 3 + v3, 200 + v4, false⟩] ++ [it], k4), ?_, ⟨items_snoc i1 (fun _ => by rw [Qjz, if_neg hnm]; exact g2) hmade, ?_, .inr ?_⟩, ?_⟩
   ·simp only [Qjz, if_pos hmo, List.map_append, List.map_cons, List.map_nil, itmR]
   ·simp only [Qjz, if_pos hmo, List.length_append, List.length_singleton]
    exact Qbv hb2 (by omega)
   ·simp only [List.length_append, List.length_singleton]; omega
   ·simp only; omega
  ·rw [if_neg c5, if_pos (by simp; omega)]
   left
   refine ⟨(items ++ [it], k2), ?_, ⟨items_snoc h1 (fun _ => g2) hmade, ?_, .inr ?_⟩, ?_⟩
   ·simp only [Qjz, if_pos hmo, List.map_append, List.map_cons, List.map_nil, itmR]
   ·simp only [Qjz, if_pos hmo, List.length_append, List.length_singleton]
    exact Qbv hb2 (by omega)
   ·simp only [List.length_append, List.length_singleton]; omega
   ·simp only; omega
def endI : Itm := ⟨14, 0, ⟨0, 0, 0⟩, ⟨0, 0, 0⟩, 0, ⟨0, 0, 0⟩, 0, false, 0, false, 0, 0, 0, 0, 0, false⟩
theorem end_oth : Oth endI := ⟨by simp [endI], by simp [endI], by simp [endI], by simp [endI]⟩
theorem a_Items {MM MO ML MN MF : List AC -> Option (List AC)} {N : List AC -> Option (Nat × List AC)} {l : List (List AC)} (hN : NextOK l MN) (hF : MF [.view Qac l] = some [.view Qac l, I 0]) {most : Int} {fin : Bool} (hm : most <= 100)
  (hL : ∀ (p : Pt) (k : Nat), bd 4 p -> ∃ items, N [.view kItm [], I most, B fin, I p.x, I p.y, I p.z, .view Qac l, I k] = some (1, [.view kItm (items.map itmR), B fin]) /\ Items 4084 p items /\ (items = [] \/ items.length <= most + 1)) :
  ∃ (p : Pt) (items : List Itm), mf_cncmill_Items MM MO ML MN MF N [.view Qac l, I most, B fin] = some [.view kItm ((items ++ if fin = true then [endI] else []).map itmR)] /\ Items 4084 p items /\ (items = [] \/ items.length <= most + 1) := by
 obtain ⟨v1, k1, e1, a1, b1, c1, -, -⟩ := hN 0 (n := 9) (by omega)
 obtain ⟨v2, k2, e2, a2, b2, c2, -, -⟩ := hN k1 (n := 9) (by omega)
 obtain ⟨v3, k3, e3, a3, b3, c3, -, -⟩ := hN k2 (n := 9) (by omega)
 obtain ⟨items, h1, h2, h3⟩ := hL ⟨v1 - 4, v2 - 4, v3 - 4⟩ k3 ⟨by simp only; omega, by simp only; omega, by simp only; omega⟩
 rw [mf_cncmill_Items_eq]
 have e1' : MN [I 9, .view Qac l, I 0] = some [I v1, .view Qac l, I k1] := e1
 simp only [go_sem, hF, e1', e2, e3]
 rw [Qab (x := v1 - 4) (by omega), Qab (x := v2 - 4) (by omega), Qab (x := v3 - 4) (by omega)]
 simp only [h1, go_sem]
 refine ⟨_, items, ?_, h2, h3⟩
 have hlen : items.length <= 101 := by
  rcases h3 with h3 | h3
  ·rw [h3]; simp
  ·omega
 cases fin
 ·simp
 ·rw [if_pos rfl, if_pos (by simp; omega), if_pos rfl, List.map_append]
  rfl
theorem s_Items {l : List (List AC)} (hl : Src l) {most : Int} (hm : most <= 100) (fin : Bool) :
  ∃ (p : Pt) (items : List Itm), Qi4 [.view Qac l, I most, B fin] = some [.view kItm (items.map itmR)] /\ Items 4084 p items /\ (items.length : Int) <= max most (-1) + 2 /\ (fin = true -> ∃ l, items = l ++ [endI] /\ (l.length : Int) <= max most (-1) + 1) /\ (fin = false -> (items.length : Int) <= max most (-1) + 1) := by
 obtain ⟨p, items, h1, h2, h3⟩ := a_Items (MM := Qe0) (MO := Qfk) (ML := Qcm) (N := l_cncmill_Items_4) (fin := fin) (nextOK hl) (s_From l) hm fun p k hp => by
  obtain ⟨o, h1, -, items, rfl, h3, h4⟩ := a_ItemsL (MF := Qc8) (fin := fin) (nextOK hl) (fun hp _ hk k => s_motion hl hp hk k) (fun k => s_other_item hl k) (s_Left l) hm (p := p) ([], k) ⟨⟨trivial, by simp⟩, hp, .inl rfl⟩
  exact ⟨items, h1, h3, h4⟩
 have hle : (items.length : Int) <= max most (-1) + 1 := by
  rcases h3 with h3 | h3
  ·rw [h3]; simp; omega
  ·omega
 refine ⟨p, _, h1, ?_, ?_, fun hf => ?_, fun hf => ?_⟩
 ·cases fin
  ·simpa using h2
  ·simp only [if_true]
   exact items_snoc h2 (fun h => absurd h (oth_mot end_oth)) (.inr end_oth)
 ·cases fin
  ·simp; omega
  ·simp; omega
 ·subst hf; exact ⟨items, by simp, hle⟩
 ·subst hf; simpa using hle

theorem link_chk {A : Nat} {items : List Itm} (hA : A <= 1000000) (hm : ∀ it ∈ items, (motI it /\ Made it /\ blank it /\ bd A it.fr /\ bd A it.to) \/ Oth it) : ∀ (k i : Nat) (last : Int) (p : Pt), i + k = items.length -> Link p (items.drop i) -> (0 <= last -> (itA items last.toNat).to = p) -> chkF items k i last = 0
 | 0, _, _, _, _, _, _ => rfl
 | k + 1, i, last, p, hi, h, hp => by
  have hlt : i < items.length := by omega
  have hit := hm _ (itA_mem hlt)
  rw [drop_itA hlt] at h
  unfold Link at h
  unfold chkF
  have hw : ¬ Qel (itA items i) := by
   rcases hit with ⟨h1, h2, h3, h4, h5⟩ | ho
   ·have hv := made_valid h2 (Qbv h4 hA) (Qbv h5 hA)
    have hf := h2.feed
    have hb := h2.blend
    have hk := h2.kind
    rintro (g | g | ⟨-, g | g | g | g⟩ | ⟨g, -⟩)
    ·omega
    ·omega
    ·exact g hv
    ·omega
    ·omega
    ·omega
    ·exact g h1
   ·have hk := ho.kind
    rintro (g | g | ⟨g, -⟩ | ⟨-, g1, g2⟩)
    ·omega
    ·omega
    ·exact oth_mot ho g
    ·have := ho.spin g1; omega
  rw [if_neg hw]
  by_cases c : motI (itA items i)
  ·rw [if_pos c] at h ⊢
   rw [if_neg (fun g => g.2 (by rw [hp g.1]; exact h.1.symm))]
   exact link_chk hA hm k (i + 1) i _ (by omega) h.2 (fun _ => by rw [Int.toNat_natCast])
  ·rw [if_neg c] at h ⊢
   exact link_chk hA hm k (i + 1) last p (by omega) h hp
theorem items_check {A : Nat} {p : Pt} {items : List Itm} (hA : A <= 1000000) (h : Items A p items) (hl : items.length <= 20000) : Qkz items = 0 := by
 unfold Qkz
 rw [if_neg (by omega)]
 exact link_chk hA h.made items.length 0 (-1) p (by omega) (by rw [List.drop_zero]; exact h.link) (fun h => by omega)
end Go.Bm
/- the path of items that the maker makes is valid -/
set_option maxRecDepth 100000
namespace Go.Bm
open Classical

structure okW (R : Nat) (s : Spk) : Prop where
 ok : okS s
 u : s.u.natAbs <= R
 w : s.w.natAbs <= R
 r : s.r <= R
def lastIt : Int -> List Sgm -> Int
 | k, [] => k
 | _, g :: l => lastIt g.item l
structure VInv (i : Nat) (s : BSt) : Prop where
 begun : s.begun = true -> bd B24 s.start /\ segsOK 0 s.start s.segs /\ lastIt 0 s.segs <= i
 marks : marksOK 0 s.len s.marks
theorem items_mono {A A' : Nat} {p : Pt} {l : List Itm} (h : Items A p l) (hA : A <= A') : Items A' p l :=
 ⟨h.link, fun it hi => (h.made it hi).imp (fun ⟨h1, h2, h3, h4, h5⟩ => ⟨h1, h2, h3, Qbv h4 hA, Qbv h5 hA⟩) id⟩
end Go.Bm
