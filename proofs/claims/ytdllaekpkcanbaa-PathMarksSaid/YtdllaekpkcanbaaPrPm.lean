/- the marks of a path, and the law PathMarks, over the models -/
import Derived.Test.YtdllaekpkcanbaaPrOk
import Derived.Test.YtdllaekpkcanbaaMy1
set_option linter.unusedVariables false
set_option linter.unusedSimpArgs false
set_option maxRecDepth 100000
namespace Go.Bm
open Classical

noncomputable def mkA (items : List Itm) (i : Nat) : Mrk := ⟨(buildN items (i + 1)).len, if motI (itA items i) then kindK items i else otherK (itA items i), i⟩
theorem marks_of (items : List Itm) : ∀ n, (buildN items n).marks = (List.range n).map (mkA items)
 | 0 => rfl
 | n + 1 => by
  rw [List.range_succ, List.map_append, <- marks_of items n]
  show (bStep items n (buildN items n)).marks = _
  unfold mkA
  show _ = _ ++ [(⟨(bStep items n (buildN items n)).len, _, _⟩ : Mrk)]
  unfold bStep
  by_cases c : motI (itA items n)
  ·simp only [if_pos c]
  ·simp only [if_neg c]
theorem row_mkA {items : List Itm} {n i : Nat} (h : i < n) : nth [] ((buildN items n).marks.map mrkR) i = mrkR (mkA items i) := by
 have hl : i < (buildN items n).marks.length := by rw [marks_of]; simpa using h
 rw [row_mk hl]
 congr 1
 simp only [marks_of, List.getElem_map, List.getElem_range]
theorem nextSy_12 : ∀ l : List Itm, nextSy l = 1 \/ nextSy l = 2
 | [] => .inr rfl
 | it :: l => by
  unfold nextSy
  repeat' split
  all_goals first | exact .inl rfl | exact .inr rfl | exact nextSy_12 l
theorem kindK_set (items : List Itm) (i : Nat) : kindK items i = 6 \/ kindK items i = 1 \/ kindK items i = 2 := by
 unfold kindK
 have := nextSy_12 (items.drop (i + 1))
 repeat' split
 all_goals omega
theorem len_sum {items : List Itm} {i : Nat} (h : BInv (buildN items i)) : (buildN items i).len = sumLen (buildN items i).segs := by
 by_cases hb : (buildN items i).begun = true
 ·exact (h.begun hb).2.2.2.symm
 ·obtain ⟨h1, h2, -⟩ := h.empty (by simpa using hb)
  rw [h1, h2]; rfl
theorem seg_ge {items : List Itm} (hright : ∀ j < items.length, ¬ wrongI (itA items j)) {i : Nat} (hi : i <= items.length) : ∀ g ∈ (buildN items i).segs, 1 <= g.len := by
 have h := buildN_inv hright i hi
 by_cases hb : (buildN items i).begun = true
 ·exact fun g hg => (good_len (h.begun hb).1 (h.begun hb).2.1 g hg).1
 ·rw [(h.empty (by simpa using hb)).1]; simp
theorem len_mono {items : List Itm} (hright : ∀ j < items.length, ¬ wrongI (itA items j)) {i k : Nat} (h : i + k <= items.length) : 0 <= (buildN items i).len /\ (buildN items i).len <= (buildN items (i + k)).len := by
 rw [len_sum (buildN_inv hright i (by omega)), len_sum (buildN_inv hright (i + k) h)]
 obtain ⟨l, hl⟩ := build_pre items i k
 have hg := seg_ge hright h
 rw [hl] at hg ⊢
 rw [sum_app]
 have h1 := sum_nn (l := (buildN items i).segs) fun g hg' => hg g (by simp [hg'])
 have h2 := sum_nn (l := l) fun g hg' => hg g (by simp [hg'])
 omega
theorem mkA_at {items : List Itm} (hright : ∀ j < items.length, ¬ wrongI (itA items j)) {i : Nat} (hi : i < items.length) :
  0 <= (mkA items i).at_ /\ (mkA items i).at_ <= sumLen (pathP items).segs := by
 have h := len_mono hright (i := i + 1) (k := items.length - (i + 1)) (by omega)
 rw [show i + 1 + (items.length - (i + 1)) = items.length by omega] at h
 refine ⟨h.1, ?_⟩
 have := len_sum (buildN_inv hright items.length (Nat.le_refl _))
 rw [pathP_def]
 simp only
 rw [<- this]
 exact h.2
theorem mkA_to {items : List Itm} (hright : ∀ j < items.length, ¬ wrongI (itA items j)) {i : Nat} (hi : i < items.length) (hm : motI (itA items i)) (hs : ¬ 0 <= softK items i) :
  atP (pathP items) (mkA items i).at_ = fine (itA items i).to := by
 have hin := buildN_inv hright (i + 1) (by omega)
 have hb := mot_begun hm
 obtain ⟨l, hl⟩ := build_pre items (i + 1) (items.length - (i + 1))
 have hst := (begun_steps hb (items.length - (i + 1))).2
 have hg := seg_ge hright (Nat.le_refl items.length)
 rw [show i + 1 + (items.length - (i + 1)) = items.length by omega] at hl hst
 have h0 := (mkA_at hright hi).1
 unfold atP
 rw [Int.max_eq_left h0, pathP_def]
 simp only
 rw [hl] at hg ⊢
 have e : (mkA items i).at_ = sumLen (buildN items (i + 1)).segs := len_sum hin
 rw [e, at_cut hg, hst]
 exact mot_end hi hright hm hs
theorem step_marks {MF MA MSo MM ML MB MI MD MW : List AC -> Option (List AC)} {items : List Itm} {marks : List (List AC)} {n i : Nat} {p : Pth} {it : Itm} {mk : Mrk} {len so : Int} {prev : Mrk} (hn : n <= 1000000) (hi : i < n) (hni : items.length = n) (hml : marks.length = n)
  (hr : nth [] marks i = mrkR mk) (hri : nth [] (items.map itmR) i = itmR it) (hL : ML [I p.start.x, I p.start.y, I p.start.z, .view kSgm (p.segs.map sgmR), .view kMrk marks] = some [I len])
  (hM : MM [I it.kind] = some [B (decide (motI it))]) (hS : MSo [.view kItm (items.map itmR), I i] = some [I so])
  (hA : motI it -> so < 0 -> MA [I p.start.x, I p.start.y, I p.start.z, .view kSgm (p.segs.map sgmR), .view kMrk marks, I mk.at_] = some (ptR (fine it.to)))
  (hF : motI it -> MF [I it.to.x, I it.to.y, I it.to.z] = some (ptR (fine it.to)))
  (h1 : mk.item = i) (h2 : 0 <= mk.at_) (h3 : mk.at_ <= len) (h4 : 0 < i -> nth [] marks (i - 1) = mrkR prev /\ prev.at_ <= mk.at_) (h5 : motI it -> mk.kind ≠ 3 /\ mk.kind ≠ 5) (h6 : it.kind = 10 -> mk.kind = 5) (h7 : it.kind = 14 -> mk.kind = 3) :
  st_cnclaw25_PathMarks_8 MF MA MSo MM ML MB MI MD MW [.view kItm (items.map itmR), .view kMrk marks, I n, I i, I p.start.x, I p.start.y, I p.start.z, .view kSgm (p.segs.map sgmR), .view kMrk marks] =
   some (0, [.view kItm (items.map itmR), .view kMrk marks, I n, I (i + 1 : Nat), I p.start.x, I p.start.y, I p.start.z, .view kSgm (p.segs.map sgmR), .view kMrk marks]) := by
 have hin : (0 : Int) <= (i : Int) /\ (i : Int) < (n : Int) := by omega
 have hw : IntKind.i64.wrap ((i : Int) + 1) = ((i + 1 : Nat) : Int) := by rw [wrap_id (by omega)]; omega
 simp only [mrkR, itmR] at hr hri
 rw [st_cnclaw25_PathMarks_8_eq]
 simp only [go_sem, List.length_map, Int.toNat_natCast, hr, hri, hml, hni, if_pos hin, hL, hM, hS, hw]
 rw [if_pos (by omega), if_neg (by omega), if_neg (by omega), if_neg (by omega)]
 have fin : ∀ F : Option (Nat × List AC), ∀ X : Option (Nat × List AC), (if it.kind = 10 then if mk.kind ≠ 5 then F else if it.kind = 14 then if mk.kind ≠ 3 then F else X else X else if it.kind = 14 then if mk.kind ≠ 3 then F else X else X) = X := by
  intro F X
  by_cases c4 : it.kind = 10
  ·rw [if_pos c4, if_neg (by have := h6 c4; omega), if_neg (by omega)]
  ·rw [if_neg c4]
   by_cases c5 : it.kind = 14
   ·rw [if_pos c5, if_neg (by have := h7 c5; omega)]
   ·rw [if_neg c5]
 have key : ∀ F : Option (Nat × List AC), ∀ X : Option (Nat × List AC), (if motI it then if so < 0 then (MA [I p.start.x, I p.start.y, I p.start.z, .view kSgm (p.segs.map sgmR), .view kMrk marks, I mk.at_]).bind fun o21 => (MF [I it.to.x, I it.to.y, I it.to.z]).bind fun o22 => if ¬ (intOf (nth AC.dead o21 0) = intOf (nth AC.dead o22 0) /\ intOf (nth AC.dead o21 1) = intOf (nth AC.dead o22 1) /\ intOf (nth AC.dead o21 2) = intOf (nth AC.dead o22 2) /\ True) then F else if mk.kind = 3 then F else if mk.kind = 5 then F else X else X else X) = X := by
  intro F X
  by_cases c : motI it
  ·rw [if_pos c]
   by_cases c2 : so < 0
   ·have a1 := hA c c2
    have a2 := hF c
    simp only [ptR] at a1 a2
    have := h5 c
    rw [if_pos c2, a1, Option.bind_some, a2, Option.bind_some]
    simp [this.1, this.2]
   ·rw [if_neg c2]
  ·rw [if_neg c]
 by_cases c1 : 0 < i
 ·obtain ⟨b1, b2⟩ := h4 c1
  simp only [mrkR] at b1
  have hw1 : IntKind.i64.wrap ((i : Int) - 1) = ((i - 1 : Nat) : Int) := by rw [wrap_id (by omega)]; omega
  rw [if_pos (by omega)]
  simp only [hw1, Int.toNat_natCast, b1, go_sem]
  rw [if_pos (by omega), if_neg (by omega)]
  simp only [fin, key]
 ·rw [if_neg (by omega)]
  simp only [fin, key]
theorem l_marks {MF MA MSo MM ML MB MI MD MW : List AC -> Option (List AC)} {items : List Itm} (hl : items.length <= 15) (hright : ∀ j < items.length, ¬ wrongI (itA items j)) (hbd : ∀ it ∈ items, motI it -> bd 100000000 it.to) (hok : SegOK (pathP items).segs)
  (hL : ML (pthR (pathP items)) = some [I (sumLen (pathP items).segs)])
  (hM : ∀ k : Int, MM [I k] = some [B (decide (1 <= k /\ k <= 6))]) (hS : ∀ i < items.length, MSo [.view kItm (items.map itmR), I i] = some [I (softK items i)]) (hA : ∀ {s : Int}, i64 s -> MA (pthR (pathP items) ++ [I s]) = some (ptR (atP (pathP items) s)))
  (hF : ∀ {q : Pt}, bd 100000000 q -> MF [I q.x, I q.y, I q.z] = some (ptR (fine q))) : ∀ (k i : Nat), i + k = items.length ->
  loopC (st_cnclaw25_PathMarks_8 MF MA MSo MM ML MB MI MD MW) ([.view kItm (items.map itmR), .view kMrk ((pathP items).marks.map mrkR), I items.length, I i] ++ pthR (pathP items)) = some (2, [])
 | 0, i, hi => by
  refine loop_end ?_ (by simp)
  simp only [pthR, List.cons_append, List.nil_append]
  rw [st_cnclaw25_PathMarks_8_eq, bif_neg (by omega)]
 | k + 1, i, hi => by
  have hlt : i < items.length := by omega
  have hml : ((pathP items).marks.map mrkR).length = items.length := by rw [pathP_def]; simp [marks_of]
  have hri := row_itA hlt
  have hr : nth [] ((pathP items).marks.map mrkR) i = mrkR (mkA items i) := row_mkA hlt
  have hat := mkA_at hright hlt
  have hall := sum_bd hok.seg
  have hct := hok.count
  have h := step_marks (MF := MF) (MA := MA) (MSo := MSo) (MM := MM) (ML := ML) (MB := MB) (MI := MI) (MD := MD) (MW := MW) (items := items) (marks := (pathP items).marks.map mrkR) (p := pathP items) (it := itA items i) (mk := mkA items i) (len := sumLen (pathP items).segs) (so := softK items i) (prev := mkA items (i - 1)) (by omega) hlt rfl hml hr hri hL (hM _) (hS i hlt)
   (fun hm hs => by rw [<- mkA_to hright hlt hm (by omega)]; exact hA (by unfold i64; omega)) (fun hm => hF (hbd _ (itA_mem hlt) hm)) rfl hat.1 hat.2
   (fun h0 => ⟨row_mkA (by omega), by
    have := (len_mono hright (i := i) (k := 1) (by omega)).2
    show (buildN items (i - 1 + 1)).len <= (buildN items (i + 1)).len
    rw [show i - 1 + 1 = i by omega]; exact this⟩)
   (fun hm => by
    have := kindK_set items i
    show (if _ then _ else _) ≠ _ /\ (if _ then _ else _) ≠ _
    rw [if_pos hm]
    omega)
   (fun h10 => by
    show (if _ then _ else _) = _
    rw [if_neg (fun hm : motI _ => by have := hm.2; omega)]
    unfold otherK
    rw [if_pos h10])
   (fun h14 => by
    show (if _ then _ else _) = _
    rw [if_neg (fun hm : motI _ => by have := hm.2; omega)]
    unfold otherK
    rw [if_neg (by omega), if_neg (by omega)])
  simp only [pthR, List.cons_append, List.nil_append] at h ⊢
  rw [loop_more h]
  exact l_marks hl hright hbd hok hL hM hS hA hF k (i + 1) (by omega)
theorem a_Marks {MF MA MSo MM ML MB MI MD MW : List AC -> Option (List AC)} {N : List AC -> Option (Nat × List AC)} {l : List (List AC)} {most m : Int} {items : List Itm} (hlen : items.length <= 15) (hW : MW [] = some [B true]) (hD : MD [I most, I 10] = some [I m])
  (hI : MI [.view kInts l, I m, B (decide (most.tmod 2 = 0))] = some [.view kItm (items.map itmR)]) (hB : MB [.view kItm (items.map itmR)] = some (pthR (pathP items) ++ [I 0]))
  (hN : N ([.view kItm (items.map itmR), .view kMrk ((pathP items).marks.map mrkR), I items.length, I 0] ++ pthR (pathP items)) = some (2, [])) :
  mf_cnclaw25_PathMarks MF MA MSo MM ML MB MI MD MW N [.view kInts l, I most] = some [B true] := by
 have hml : ((pathP items).marks.map mrkR).length = items.length := by rw [pathP_def]; simp [marks_of]
 rw [mf_cnclaw25_PathMarks_eq]
 generalize pathP items = p at *
 have e : (most.tmod 2 == 0) = decide (most.tmod 2 = 0) := rfl
 rw [e]
 simp only [pthR, List.cons_append, List.nil_append] at hB hN
 simp only [go_sem, hW, hD, hI, hB, hml, hN]
 simp
theorem s_PathMarks {l : List (List AC)} (hl : Src l) {most : Int} (hm : i64 most) : m_cnclaw25_PathMarks [.view kInts l, I most] = some [B true] := by
 have h10 : 0 <= most % 10 /\ most % 10 < 10 := ⟨Int.emod_nonneg _ (by omega), Int.emod_lt_of_pos _ (by omega)⟩
 obtain ⟨p, items, h1, h2, h3, -⟩ := s_Items hl (most := most % 10) (by omega) (decide (most.tmod 2 = 0))
 have hlen : items.length <= 15 := by omega
 have hmd := h2.made
 have h2 := items_mono h2 (show 4084 <= 40004 by omega)
 have hc := items_check (by omega) h2 (by omega)
 have hpb := s_path_Build hlen
 rw [if_pos hc] at hpb
 have hg := goodP_of hlen hc
 refine a_Marks hlen m_cnclaw25_awake_eq (s_cncmill_Mod hm (by omega)) h1 hpb (l_marks hlen (check_right hc).2 (fun it hi hmo => ?_) hg.ok (s_path_Length hg.ok) s_cncref23_Motion (fun i hi => s_Soft (by omega) hi) (s_path_At hg) s_Fine items.length 0 (by omega))
 rcases hmd it hi with ⟨-, -, -, -, b⟩ | h
 ·exact bd_mono b (by decide)
 ·have := h.kind; have := hmo.2; omega
end Go.Bm
