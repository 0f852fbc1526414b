/- laid together -/
import Derived.Test.YtdllaekpkcanbaaGreatPrSz
import Derived.Test.YtdllaekpkcanbaaGreatMy1
import Derived.Test.YtdllaekpkcanbaaGreatPrI3
set_option linter.unusedVariables false
set_option linter.unusedSimpArgs false
/- the law PathValid, over the models -/
set_option maxRecDepth 100000
namespace Go.Bm
open Classical

theorem s_MillItems {l : List (List AC)} (hl : Src l) {most : Int} (hm : most <= 15) : ∃ (q : Pt) (items : List Itm), m_cncmill_Path [.view kInts l, I most] = some (pthR (pathP items)) /\ Motions 40004 q items /\ (items = [] \/ items.length <= most) /\ items.length <= 15 /\ checkP items = 0 := by
  obtain ⟨q, items, h1, h2, h3⟩ := s_Motions hl (most := most) (by omega)
  have hlen : items.length <= 15 := by
    rcases h3 with h | h
    · rw [h]; simp
    · omega
  have h4 := s_Build hlen
  have hc := items_check (by omega) (motions_items h2) (by omega)
  refine ⟨q, items, ?_, h2, h3, hlen, hc⟩
  unfold m_cncmill_Path
  generalize m_cncref25_Build = MB at *
  generalize m_cncmill_Motions = MM at *
  rw [mf_cncmill_Path_eq]
  rw [if_pos hc] at h4
  simp only [List.cons_append, List.nil_append, pthR] at h4
  simp only [go_sem, h1, h4]
theorem a_small {M : List AC -> Option (List AC)} {N : List AC -> Option (Nat × List AC)} {p : Pth} (hM : ∀ q : Pt, ∃ b, M [I q.x, I q.y, I q.z] = some [B b])
    (hN : (∃ b, N (.view kSgm (p.segs.map sgmR) :: I p.segs.length :: I 0 :: pthR p) = some (1, [B b])) \/ N (.view kSgm (p.segs.map sgmR) :: I p.segs.length :: I 0 :: pthR p) = some (2, pthR p)) : ∃ b, mf_cnclaw25_small M N (pthR p) = some [B b] := by
  obtain ⟨b, hb⟩ := hM p.start
  simp only [pthR] at hN ⊢
  rw [mf_cnclaw25_small_eq]
  rcases hN with ⟨c, h⟩ | h
  · simp only [go_sem, List.length_map, h]
    exact ⟨c, by simp⟩
  · simp only [go_sem, List.length_map, h, hb]
    exact ⟨b, by simp⟩
theorem l_small {M : List AC -> Option (List AC)} {p : Pth} (hM : ∀ q : Pt, ∃ b, M [I q.x, I q.y, I q.z] = some [B b]) (hc : p.segs.length <= 1000000) : ∀ (k i : Nat), i + k = p.segs.length ->
    (∃ b, loopC (st_cnclaw25_small_2 M) (.view kSgm (p.segs.map sgmR) :: I p.segs.length :: I i :: pthR p) = some (1, [B b])) \/ loopC (st_cnclaw25_small_2 M) (.view kSgm (p.segs.map sgmR) :: I p.segs.length :: I i :: pthR p) = some (2, pthR p)
  | 0, i, hi => by
    right
    refine loop_end ?_ (by simp)
    rw [st_cnclaw25_small_2_eq, bif_neg (by omega)]
  | k + 1, i, hi => by
    have hlt : i < p.segs.length := by omega
    have hr := row_sg hlt
    have hin : (0 : Int) <= (i : Int) /\ (i : Int) < (p.segs.length : Int) := by omega
    obtain ⟨b, hb⟩ := hM p.segs[i].to
    generalize p.segs[i] = g at *
    have hst : st_cnclaw25_small_2 M (.view kSgm (p.segs.map sgmR) :: I p.segs.length :: I i :: pthR p) = some (1, [B false]) \/ st_cnclaw25_small_2 M (.view kSgm (p.segs.map sgmR) :: I p.segs.length :: I i :: pthR p) = some (0, .view kSgm (p.segs.map sgmR) :: I p.segs.length :: I (i + 1 : Nat) :: pthR p) := by
      rw [st_cnclaw25_small_2_eq]
      simp only [go_sem, List.length_map, Int.toNat_natCast, hr, if_pos hin, hb]
      rw [if_pos (by omega), wrap_id (by omega)]
      by_cases c1 : b = true
      · rw [if_neg (by simpa using c1)]
        by_cases c2 : g.len < 0
        · rw [if_pos c2]; exact .inl rfl
        · rw [if_neg c2]
          by_cases c3 : g.len > 134217728
          · rw [if_pos c3]; exact .inl rfl
          · rw [if_neg c3]; exact .inr rfl
      · rw [if_pos c1]; exact .inl rfl
    rcases hst with hst | hst
    · exact .inl ⟨false, loop_end hst (by simp)⟩
    · rw [loop_more hst]
      exact l_small hM hc k (i + 1) (by omega)
theorem s_small {p : Pth} (hc : p.segs.length <= 1000000) : ∃ b, m_cnclaw25_small (pthR p) = some [B b] := by
  have hM : ∀ q : Pt, ∃ b, m_cncref23_Small [I q.x, I q.y, I q.z] = some [B b] := fun q => by obtain ⟨r, h, -⟩ := s_cncref23_Small q; exact ⟨r, h⟩
  exact a_small (N := l_cnclaw25_small_2) hM (l_small hM hc p.segs.length 0 (by omega))
theorem set_sg (l : List Sgm) (i : Nat) (a b c d e f g : Int) : (l.map sgmR).set i [I a, I b, I c, I d, I e, I f, I g] = (l.set i ⟨⟨a, b, c⟩, d, e, f, g⟩).map sgmR := by rw [List.map_set]
theorem set_mk (l : List Mrk) (i : Nat) (a b c : Int) : (l.map mrkR).set i [I a, I b, I c] = (l.set i ⟨a, b, c⟩).map mrkR := by rw [List.map_set]
theorem a_PathValid {MSm MRV MD MPV MP MW : List AC -> Option (List AC)} {l : List (List AC)} {raw p : Pth} {k n i c3 : Int} {b : Bool} (hW : MW [] = some [B true]) (hP : MP [.view kInts l, I 4] = some (pthR p)) (hpc : p.segs.length <= 983055) (hpm : p.marks.length <= 80000) (hmk : p.segs ≠ [] -> p.marks ≠ [])
    (hD : p.segs ≠ [] -> MD [I k, I p.segs.length] = some [I i] /\ 0 <= i /\ i < p.segs.length) (hD3 : MD [I k, I 3] = some [I c3] /\ 0 <= c3 /\ c3 < 3) (hD6 : ∃ c, MD [I n, I 6] = some [I c])
    (hPV : ∀ {q : Pth}, q.segs.length <= 983055 -> q.marks.length <= 80000 -> MPV (pthR q) = some [B (decide (validP q))]) (hRV : ∀ {q : Pth}, q.segs.length <= 983055 -> q.marks.length <= 80000 -> MRV (pthR q) = some [B (decide (validP q))])
    (hv : validP p) (hS : raw.segs.length <= 30 -> MSm (pthR raw) = some [B b]) :
    mf_cnclaw25_PathValid MSm MRV MD MPV MP MW (pthR raw ++ [.view kInts l, I k, I n]) = some [B true] := by
  obtain ⟨c, hD6⟩ := hD6
  simp only [pthR, List.cons_append, List.nil_append] at hP hS ⊢
  rw [mf_cnclaw25_PathValid_eq]
  by_cases h1 : raw.segs.length > 30
  · simp only [go_sem, hW, List.length_map]
    rw [if_neg (by simp), if_pos (by omega)]
  by_cases h2 : raw.marks.length > 30
  · simp only [go_sem, hW, List.length_map]
    rw [if_neg (by simp), if_neg (by omega), if_pos (by omega)]
  have hS := hS (by omega)
  have r1 := hPV (q := raw) (by omega) (by omega)
  have r2 := hRV (q := raw) (by omega) (by omega)
  have v1 := hPV (q := p) hpc hpm
  rw [decide_eq_true hv] at v1
  simp only [pthR] at r1 r2 v1
  -- the end of every way
  have key : ∀ (L : List Sgm) (M : List Mrk), L.length <= 983055 -> M.length <= 80000 ->
      ((MPV [I p.start.x, I p.start.y, I p.start.z, .view kSgm (L.map sgmR), .view kMrk (M.map mrkR)]).bind fun o86 =>
       (MRV [I p.start.x, I p.start.y, I p.start.z, .view kSgm (L.map sgmR), .view kMrk (M.map mrkR)]).bind fun o87 =>
       if (boolOf (nth .dead o86 0) == boolOf (nth .dead o87 0)) = true then
         ((MSm [I raw.start.x, I raw.start.y, I raw.start.z, .view kSgm (raw.segs.map sgmR), .view kMrk (raw.marks.map mrkR)]).bind fun o88 =>
         if ¬ boolOf (nth .dead o88 0) = true then some [B true] else
         (MPV [I raw.start.x, I raw.start.y, I raw.start.z, .view kSgm (raw.segs.map sgmR), .view kMrk (raw.marks.map mrkR)]).bind fun o89 =>
         (MRV [I raw.start.x, I raw.start.y, I raw.start.z, .view kSgm (raw.segs.map sgmR), .view kMrk (raw.marks.map mrkR)]).bind fun o90 =>
         some [B (boolOf (nth .dead o89 0) == boolOf (nth .dead o90 0))]) else some [B false]) = some [B true] := by
    intro L M hL hM
    have e1 := hPV (q := ⟨p.start, L, M⟩) hL hM
    have e2 := hRV (q := ⟨p.start, L, M⟩) hL hM
    simp only [pthR] at e1 e2
    simp only [e1, e2, hS, r1, r2, Option.bind_some, nth_zero', boolOf_bool]
    cases b <;> simp
  have hl1 : ∀ (i : Nat) (g : Sgm), (p.segs.set i g).length <= 983055 := fun i g => by rw [List.length_set]; exact hpc
  have hl2 : ∀ (i : Nat) (m : Mrk), (p.marks.set i m).length <= 80000 := fun i m => by rw [List.length_set]; exact hpm
  simp only [go_sem, hW, List.length_map, hP, v1, List.nil_append, hD6, hD3.1]
  rw [if_neg (by simp), if_neg (by omega), if_neg (by omega), if_neg (by simp), if_pos (by omega), if_pos (by omega)]
  by_cases hs : p.segs = []
  · rw [if_neg (by rw [hs]; simp)]
    have hk := key p.segs p.marks hpc hpm
    simp only [v1, Option.bind_some, nth_zero', boolOf_bool] at hk
    exact hk
  have hlen : 0 < p.segs.length := List.length_pos_iff.2 hs
  obtain ⟨d1, d2, d3⟩ := hD hs
  have hm0 : 0 < p.marks.length := List.length_pos_iff.2 (hmk hs)
  obtain ⟨j, rfl⟩ := Int.eq_ofNat_of_zero_le d2
  have hj : j < p.segs.length := by omega
  have hr := row_sg hj
  have hr0 := row_mk hm0
  rw [if_pos (by omega)]
  simp only [d1, go_sem, Int.toNat_natCast, hr]
  generalize p.segs[j] = g at *
  rw [if_pos (by omega)]
  by_cases c0 : c = 0
  · rw [if_pos c0]
    simp only [set_sg]
    exact key _ _ (hl1 _ _) hpm
  rw [if_neg c0]
  by_cases c1 : c = 1
  · rw [if_pos c1]
    obtain ⟨-, e1, e2⟩ := hD3
    have hc3 : c3 = 0 \/ c3 = 1 \/ c3 = 2 := by omega
    rcases hc3 with rfl | rfl | rfl
    · simp only [set_sg]
      rw [if_pos trivial, if_pos trivial]
      exact key _ _ (hl1 _ _) hpm
    · simp only [set_sg]
      rw [if_neg (by omega), if_pos (by omega), if_neg (by omega), if_pos (by omega)]
      exact key _ _ (hl1 _ _) hpm
    · simp only [set_sg]
      rw [if_neg (by omega), if_neg (by omega), if_pos (by omega), if_neg (by omega), if_neg (by omega), if_pos (by omega)]
      exact key _ _ (hl1 _ _) hpm
  rw [if_neg c1]
  by_cases c2 : c = 2
  · rw [if_pos c2]
    simp only [set_sg]
    exact key _ _ (hl1 _ _) hpm
  rw [if_neg c2]
  by_cases c3 : c = 3
  · rw [if_pos c3]
    simp only [set_sg]
    exact key _ _ (hl1 _ _) hpm
  rw [if_neg c3]
  by_cases c4 : c = 4
  · rw [if_pos c4]
    simp only [set_sg]
    exact key _ _ (hl1 _ _) hpm
  rw [if_neg c4]
  rw [if_pos ⟨by omega, by omega⟩]
  simp only [show Int.toNat 0 = 0 from rfl, hr0, go_sem, set_mk]
  exact key _ _ hpc (hl2 _ _)
theorem s_PathValid {raw : Pth} {l : List (List AC)} (hl : Src l) {k n : Int} (hk : i64 k) (hn : i64 n) : m_cnclaw25_PathValid (pthR raw ++ [.view kInts l, I k, I n]) = some [B true] := by
  obtain ⟨q, items, h1, h2, h3, hlen, hc⟩ := s_MillItems hl (most := 4) (by omega)
  have hg := goodP_of hlen hc
  have hmk := (buildN_ok (check_right hc).2 items.length (Nat.le_refl _)).marks
  have hmk2 : (pathP items).marks.length = items.length := hmk
  have hv := path_valid (motions_items h2) hlen
  have hne : (pathP items).segs ≠ [] -> (pathP items).marks ≠ [] := by
    intro hs hm
    rw [hm] at hmk2
    have h0 : items = [] := List.length_eq_zero_iff.1 hmk2.symm
    apply hs
    rw [h0]
    rfl
  have hD : (pathP items).segs ≠ [] -> ∃ i, m_cncmill_Mod [I k, I (pathP items).segs.length] = some [I i] /\ 0 <= i /\ i < (pathP items).segs.length := by
    intro hs
    have hlen : 0 < (pathP items).segs.length := List.length_pos_iff.2 hs
    have hct := hg.count
    exact ⟨_, s_cncmill_Mod hk (by omega), Int.emod_nonneg _ (by omega), Int.emod_lt_of_pos _ (by omega)⟩
  have hs3 : m_cncmill_Mod [I k, I 3] = some [I (k % 3)] /\ 0 <= k % 3 /\ k % 3 < 3 := ⟨s_cncmill_Mod hk (by omega), Int.emod_nonneg _ (by omega), Int.emod_lt_of_pos _ (by omega)⟩
  by_cases hr : raw.segs.length <= 30
  · obtain ⟨b, hb⟩ := s_small (p := raw) (by omega)
    by_cases hs : (pathP items).segs = []
    · exact a_PathValid (i := 0) (b := b) m_cnclaw25_awake_eq h1 hg.count (by omega) hne (fun h => absurd hs h) hs3 ⟨_, s_cncmill_Mod hn (by omega)⟩ (fun h1 h2 => s_path_Valid h1 h2) (fun h1 h2 => s_ref_Valid h1 h2) hv (fun _ => hb)
    · obtain ⟨i, hi⟩ := hD hs
      exact a_PathValid (i := i) (b := b) m_cnclaw25_awake_eq h1 hg.count (by omega) hne (fun _ => hi) hs3 ⟨_, s_cncmill_Mod hn (by omega)⟩ (fun h1 h2 => s_path_Valid h1 h2) (fun h1 h2 => s_ref_Valid h1 h2) hv (fun _ => hb)
  · by_cases hs : (pathP items).segs = []
    · exact a_PathValid (i := 0) (b := true) m_cnclaw25_awake_eq h1 hg.count (by omega) hne (fun h => absurd hs h) hs3 ⟨_, s_cncmill_Mod hn (by omega)⟩ (fun h1 h2 => s_path_Valid h1 h2) (fun h1 h2 => s_ref_Valid h1 h2) hv (fun h => absurd h hr)
    · obtain ⟨i, hi⟩ := hD hs
      exact a_PathValid (i := i) (b := true) m_cnclaw25_awake_eq h1 hg.count (by omega) hne (fun _ => hi) hs3 ⟨_, s_cncmill_Mod hn (by omega)⟩ (fun h1 h2 => s_path_Valid h1 h2) (fun h1 h2 => s_ref_Valid h1 h2) hv (fun h => absurd h hr)
theorem ok_pth {r : List AC} (h : okR [kI, kI, kI, Kd.sl kSgm, Kd.sl kMrk] r) : ∃ raw : Pth, rowsOf (nth .dead r 3) = raw.segs.map sgmR /\ rowsOf (nth .dead r 4) = raw.marks.map mrkR /\ raw.start = ptOf r 0 := by
  match r, h with
  | [], h => exact h.elim
  | [_], h => exact h.2.elim
  | [_, _], h => exact h.2.2.elim
  | [_, _, _], h => exact h.2.2.2.elim
  | [_, _, _, _], h => exact h.2.2.2.2.elim
  | _ :: _ :: _ :: d :: e :: _, h =>
    have hd := h.2.2.2.1
    have he := h.2.2.2.2.1
    unfold okC at hd he
    exact ⟨⟨_, (rowsOf d).map sgmOf, (rowsOf e).map mrkOf⟩, rows_of sgmR_of fun c hc => (hd.2 c hc).2, rows_of mrkR_of fun c hc => (he.2 c hc).2, rfl⟩
theorem s_PathValidR {r : List AC} (h : okR [kI, kI, kI, Kd.sl kSgm, Kd.sl kMrk] r) {l : List (List AC)} (hl : Src l) {k n : Int} (hk : i64 k) (hn : i64 n) :
    m_cnclaw25_PathValid [I (intOf (nth .dead r 0)), I (intOf (nth .dead r 1)), I (intOf (nth .dead r 2)), .view kSgm (rowsOf (nth .dead r 3)), .view kMrk (rowsOf (nth .dead r 4)), .view kInts l, I k, I n] = some [B true] := by
  obtain ⟨raw, h1, h2, h3⟩ := ok_pth h
  have := s_PathValid (raw := raw) hl hk hn
  rw [h1, h2]
  simp only [pthR, List.cons_append, List.nil_append, h3] at this
  exact this
end Go.Bm
/- what a law's arguments are known to be -/
set_option maxRecDepth 100000
namespace Go.Bm

theorem okR_int {r : List AC} (h : okR kInts r) : i64 (intOf (nth .dead r 0)) := by
 match r, h with
 | [], h => exact h.elim
 | a :: _, h => exact okC_int h.1
theorem okR_src {r : List AC} (h : okR [Kd.sl kInts] r) : Src (rowsOf (nth .dead r 0)) := by
 match r, h with
 | [], h => exact h.elim
 | a :: _, h =>
  have h1 := h.1
  unfold okC at h1
  refine ⟨?_, fun c hc => okR_int (h1.2 c hc).1⟩
  have h2 := h1.1
  simp only [maxLen] at h2
  show (rowsOf a).length <= _
  omega
end Go.Bm
