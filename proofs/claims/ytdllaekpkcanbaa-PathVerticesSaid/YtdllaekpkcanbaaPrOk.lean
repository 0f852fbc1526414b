/- laid together -/
import Derived.Test.YtdllaekpkcanbaaPrGd
import Derived.Test.YtdllaekpkcanbaaMy1
import Derived.Test.YtdllaekpkcanbaaPrV
set_option linter.unusedVariables false
set_option linter.unusedSimpArgs false
/- the law PathVertices, over the models -/
set_option maxRecDepth 100000
namespace Go.Bm
open Classical

theorem good_seg : ∀ {a : Pt} {l m : List Sgm} {g : Sgm}, goodSegs a (l ++ g :: m) -> g.len = lenP (endOf a l) g.to /\ g.to ≠ endOf a l
 | _, [], _, _, h => ⟨h.1, h.2.1⟩
 | _, _ :: l, _, _, h => good_seg (l := l) h.2.2.2
theorem take_snoc {α : Type} {l : List α} {i : Nat} (h : i < l.length) : l.take (i + 1) = l.take i ++ [l[i]] := List.take_succ_eq_append_getElem h
theorem s_curved {a : Pt} {g : Sgm} (ha : bd B26 a) (hg : bd B26 g.to) : m_cnclaw25_curved (ptR a ++ sgmR g) = some [B (decide (g.len ≠ lenP a g.to))] := by
 have h := (s_cncref23_Length ha hg).1
 unfold m_cnclaw25_curved
 generalize m_cncref23_Length = M at *
 simp only [ptR, sgmR, List.cons_append, List.nil_append]
 rw [mf_cnclaw25_curved_eq]
 simp only [go_sem, h]
 by_cases c : g.len = lenP a g.to <;> simp [c]
theorem l_vert {ML MF MA MC MB MM MD MW : List AC -> Option (List AC)} {p : Pth} {items : List Itm} (hg : GoodPath p) (hC : ∀ {a : Pt} {g : Sgm}, bd B26 a -> bd B26 g.to -> MC (ptR a ++ sgmR g) = some [B (decide (g.len ≠ lenP a g.to))])
  (hA : ∀ {s : Int}, i64 s -> MA (pthR p ++ [I s]) = some (ptR (atP p s))) : ∀ (k j : Nat) (a : Pt), j + k = p.segs.length -> a = endOf p.start (p.segs.take j) ->
  loopC (st_cnclaw25_PathVertices_10 ML MF MA MC MB MM MD MW) ([.view kItm (items.map itmR), I (sumLen (p.segs.take j)), .view kSgm (p.segs.map sgmR), I p.segs.length, I j] ++ pthR p ++ ptR a) =
   some (2, [.view kItm (items.map itmR), I (sumLen p.segs)] ++ pthR p ++ ptR (endOf p.start p.segs))
 | 0, j, a, hj, ha => by
  rw [List.take_of_length_le (by omega)] at ha ⊢
  subst ha
  refine loop_end ?_ (by simp)
  simp only [pthR, ptR, List.cons_append, List.nil_append]
  rw [st_cnclaw25_PathVertices_10_eq, bif_neg (by omega)]
 | k + 1, j, a, hj, ha => by
  have hlt : j < p.segs.length := by omega
  have hr := row_sg hlt
  have hin : (0 : Int) <= (j : Int) /\ (j : Int) < (p.segs.length : Int) := by omega
  have hok := hg.ok
  have hct := hg.count
  have hgs := hok.seg _ (List.getElem_mem hlt)
  have hsp : p.segs = p.segs.take j ++ p.segs[j] :: p.segs.drop (j + 1) := by
   conv => lhs; rw [<- List.take_append_drop j p.segs, getElem_take_drop p.segs j hlt]
  have hab : bd B26 a := by
   have := vert_bd (i := j) hg.start hok hlt
   rw [ha]; exact this
  have hseg := hg.segs
  rw [hsp] at hseg
  obtain ⟨s1, s2⟩ := good_seg hseg
  rw [<- ha] at s1 s2
  have hn := take_snoc hlt
  have hsum : sumLen (p.segs.take (j + 1)) = sumLen (p.segs.take j) + (p.segs[j]).len := by rw [hn, sumLen_snoc]
  have hend : (p.segs[j]).to = endOf p.start (p.segs.take (j + 1)) := by rw [hn, endOf_snoc]
  have hall := sum_bd hok.seg
  have htk : 0 <= sumLen (p.segs.take j) /\ sumLen (p.segs.take j) + (p.segs[j]).len <= sumLen p.segs := by
   have e : sumLen p.segs = sumLen (p.segs.take (j + 1)) + sumLen (p.segs.drop (j + 1)) := by rw [<- sum_app, List.take_append_drop]
   have n1 := sum_nn (l := p.segs.take j) fun g hg => (hok.seg g (List.mem_of_mem_take hg)).1
   have n2 := sum_nn (l := p.segs.drop (j + 1)) fun g hg => (hok.seg g (List.mem_of_mem_drop hg)).1
   omega
  have hat : atP p (sumLen (p.segs.take j) + (p.segs[j]).len) = (p.segs[j]).to := by
   unfold atP
   rw [Int.max_eq_left (by omega), <- hsum, hend]
   have := at_cut (a := p.start) (l := p.segs.take (j + 1)) (m := p.segs.drop (j + 1)) (by rw [List.take_append_drop]; exact fun g hg => (hok.seg g hg).1)
   rw [List.take_append_drop] at this
   exact this
  have hcv := hC hab hgs.2.2
  have hA2 := hA (s := sumLen (p.segs.take j) + (p.segs[j]).len) (by unfold i64; omega)
  rw [hat] at hA2
  have hst : st_cnclaw25_PathVertices_10 ML MF MA MC MB MM MD MW ([.view kItm (items.map itmR), I (sumLen (p.segs.take j)), .view kSgm (p.segs.map sgmR), I p.segs.length, I j] ++ pthR p ++ ptR a) =
    some (0, [.view kItm (items.map itmR), I (sumLen (p.segs.take (j + 1))), .view kSgm (p.segs.map sgmR), I p.segs.length, I (j + 1 : Nat)] ++ pthR p ++ ptR (p.segs[j]).to) := by
   rw [hsum]
   generalize p.segs[j] = g at *
   simp only [pthR, ptR, sgmR, List.cons_append, List.nil_append] at hcv hA2 hr ⊢
   rw [st_cnclaw25_PathVertices_10_eq]
   simp only [go_sem, List.length_map, Int.toNat_natCast, hr, if_pos hin, wrap_id (x := sumLen (p.segs.take j) + g.len) (by unfold i64 at *; omega), hcv, hA2]
   rw [if_pos (by omega), if_neg (by omega), if_neg (fun h => s2 (pt_ext.2 ⟨h.1, h.2.1, h.2.2.1⟩)), if_neg (by simp [s1]), if_neg (by simp), wrap_id (by unfold i64 at *; omega)]
   rfl
  rw [loop_more hst]
  exact l_vert hg hC hA k (j + 1) _ (by omega) hend
theorem nextSm_nil {k : Nat} : nextSm [] k = -1 := rfl
theorem soft_last {items : List Itm} {i : Nat} (hi : i + 1 = items.length) : ¬ 0 <= softK items i := by
 unfold softK
 rw [List.drop_of_length_le (by omega), nextSm_nil]
 split <;> omega
theorem pathP_def (items : List Itm) : pathP items = ⟨(buildN items items.length).start, (buildN items items.length).segs, (buildN items items.length).marks⟩ := rfl
theorem path_ends {items : List Itm} (hne : items ≠ []) (hright : ∀ j < items.length, ¬ wrongI (itA items j)) (hm : ∀ j < items.length, motI (itA items j)) :
  (pathP items).start = fine (itA items 0).fr /\ endOf (pathP items).start (pathP items).segs = fine (itA items (items.length - 1)).to := by
 have hl : 0 < items.length := List.length_pos_iff.2 hne
 rw [pathP_def]
 have h1 := first_start (hm 0 hl)
 have hb := mot_begun (hm 0 hl)
 have h2 := (begun_steps hb (items.length - 1)).2
 rw [show 0 + 1 + (items.length - 1) = items.length by omega] at h2
 refine ⟨h2.trans h1, ?_⟩
 have h3 := mot_end (items := items) (i := items.length - 1) (by omega) hright (hm _ (by omega)) (soft_last (by omega))
 rw [show items.length - 1 + 1 = items.length by omega] at h3
 exact h3
theorem a_Vertices {ML MF MA MC MB MM MD MW : List AC -> Option (List AC)} {N : List AC -> Option (Nat × List AC)} {l : List (List AC)} {most m : Int} {items : List Itm} (hlen : items.length <= 15) (hW : MW [] = some [B true]) (hD : MD [I most, I 8] = some [I m])
  (hM : MM [.view kInts l, I m] = some [.view kItm (items.map itmR)]) (hB : MB [.view kItm (items.map itmR)] = some (pthR (pathP items) ++ [I 0]))
  (hN : N ([.view kItm (items.map itmR), I 0, .view kSgm ((pathP items).segs.map sgmR), I (pathP items).segs.length, I 0] ++ pthR (pathP items) ++ ptR (pathP items).start) =
   some (2, [.view kItm (items.map itmR), I (sumLen (pathP items).segs)] ++ pthR (pathP items) ++ ptR (endOf (pathP items).start (pathP items).segs)))
  (hF : ∀ it ∈ items, MF (ptR it.fr) = some (ptR (fine it.fr)) /\ MF (ptR it.to) = some (ptR (fine it.to)))
  (he : items ≠ [] -> (pathP items).start = fine (itA items 0).fr /\ endOf (pathP items).start (pathP items).segs = fine (itA items (items.length - 1)).to)
  (hL : ML (pthR (pathP items)) = some [I (sumLen (pathP items).segs)]) :
  mf_cnclaw25_PathVertices ML MF MA MC MB MM MD MW N [.view kInts l, I most] = some [B true] := by
 by_cases hne : items = []
 ·subst hne
  have e : sumLen (pathP []).segs = 0 := rfl
  rw [e] at hN
  rw [mf_cnclaw25_PathVertices_eq]
  generalize pathP [] = p at *
  simp only [pthR, ptR, List.cons_append, List.nil_append] at hB hN
  simp only [go_sem, hW, hD, hM, hB, List.length_map, hN]
  simp
 ·have hl : 0 < items.length := List.length_pos_iff.2 hne
  obtain ⟨e1, e2⟩ := he hne
  have f1 := (hF _ (itA_mem hl)).1
  have f2 := (hF _ (itA_mem (show items.length - 1 < items.length by omega))).2
  have r1 := row_itA hl
  have r2 := row_itA (show items.length - 1 < items.length by omega)
  rw [e2] at hN
  rw [mf_cnclaw25_PathVertices_eq]
  generalize pathP items = p at *
  generalize itA items 0 = i0 at *
  generalize itA items (items.length - 1) = i1 at *
  simp only [pthR, ptR, itmR, List.cons_append, List.nil_append, e1] at hB hN f1 f2 r1 r2 hL
  have hw : IntKind.i64.wrap ((items.length : Int) - 1) = ((items.length - 1 : Nat) : Int) := by rw [wrap_id (by omega)]; omega
  simp only [go_sem, hW, hD, hM, hB, List.length_map, hN, Int.toNat_natCast, r1, r2, hw, f1, f2, hL]
  rw [if_neg (by simp), if_neg (by simp), if_neg (by simp), if_neg (by omega), if_pos (by omega), if_pos (by simp), if_pos (by omega), if_pos (by simp)]
  simp
theorem s_PathVertices {l : List (List AC)} (hl : Src l) {most : Int} (hm : i64 most) : m_cnclaw25_PathVertices [.view kInts l, I most] = some [B true] := by
 have h8 : 0 <= most % 8 /\ most % 8 < 8 := ⟨Int.emod_nonneg _ (by omega), Int.emod_lt_of_pos _ (by omega)⟩
 obtain ⟨p, items, h1, h2, h3⟩ := s_Motions hl (most := most % 8) (by omega)
 have hlen : items.length <= 15 := by
  rcases h3 with h | h
  ·rw [h]; simp
  ·omega
 have hc := items_check (by omega) (motions_items h2) (by omega)
 have hpb := s_path_Build hlen
 rw [if_pos hc] at hpb
 have hg := goodP_of hlen hc
 have hr := (check_right hc).2
 refine a_Vertices hlen m_cnclaw25_awake_eq (s_cncmill_Mod hm (by omega)) h1 hpb (l_vert hg s_curved (s_path_At hg) _ 0 _ (by simp; rfl) rfl) (fun it hi => ?_) (fun hne => path_ends hne hr fun j hj => ?_) (s_path_Length hg.ok)
 ·obtain ⟨-, -, -, b1, b2⟩ := h2.made it hi
  exact ⟨s_Fine (bd_mono b1 (by decide)), s_Fine (bd_mono b2 (by decide))⟩
 ·have := h2.made _ (itA_mem hj)
  exact ⟨by have := this.1.kind; omega, by have := this.2.2.1; omega⟩
end Go.Bm
/- what a law's arguments are known to be -/
set_option maxRecDepth 100000
namespace Go.Bm

theorem okR_int {r : List AC} (h : okR kInts r) : i64 (intOf (nth .dead r 0)) := by
 match r, h with
 | [], h => exact h.elim
 | a :: _, h => exact okC_int h.1
theorem okR_src {r : List AC} (h : okR [Kd.sl kInts] r) : Src (rowsOf (nth .dead r 0)) := by
 match r, h with
 | [], h => exact h.elim
 | a :: _, h =>
  have h1 := h.1
  unfold okC at h1
  refine ⟨?_, fun c hc => okR_int (h1.2 c hc).1⟩
  have h2 := h1.1
  simp only [maxLen] at h2
  show (rowsOf a).length <= _
  omega
end Go.Bm
