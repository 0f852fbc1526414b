/- laid together -/
import Derived.Test.YtdllaekpkcanbaaPrPd
import Derived.Test.YtdllaekpkcanbaaPrRt
import Derived.Test.YtdllaekpkcanbaaMx5
import Derived.Test.YtdllaekpkcanbaaPrE
import Derived.Test.YtdllaekpkcanbaaPrHg
set_option linter.unusedVariables false
set_option linter.unusedSimpArgs false
/- the program's path of a list of items is the reference's -/
set_option maxRecDepth 100000
namespace Go.Bm
open Classical

theorem segs_last (a : Pt) (segs : List Sgm) : segs = [] \/ ∃ l g, segs = l ++ [g] /\ endOf a segs = g.to /\ ((segs.length : Int) > 0) /\ nth [] (segs.map sgmR) (segs.length - 1) = sgmR g := by
 rcases List.eq_nil_or_concat segs with h | ⟨l, g, h⟩
 ·exact .inl h
 ·right
  rw [List.concat_eq_append] at h
  refine ⟨l, g, h, ?_, ?_, ?_⟩
  ·rw [h]; exact endOf_snoc g a l
  ·rw [h]; simp
  ·have hl : segs.length - 1 < segs.length := by rw [h]; simp
   rw [nth_map _ _ _ _ hl]
   congr 1
   subst h
   simp
theorem a_path_add0 {ML : List AC -> Option (List AC)} {marks : List (List AC)} {q g st : Pt} {gl item feed lead len sp mid : Int} :
  Qhp ML [.view kSgm [], .view kMrk marks, I q.x, I q.y, I q.z, I g.x, I g.y, I g.z, I gl, I item, I feed, I lead, I st.x, I st.y, I st.z, B false, I len, I sp, I mid] =
   some [.view kSgm [], .view kMrk marks, I q.x, I q.y, I q.z, B true, I len, I sp, I mid] := by
 rw [mf_path_builder_add_eq]
 simp
theorem a_path_add {ML : List AC -> Option (List AC)} {segs : List Sgm} {marks : List (List AC)} {q g st at_ : Pt} {gl item feed lead len sp mid : Int} (hat : endOf st segs = at_)
  (hL : ML [I at_.x, I at_.y, I at_.z, I q.x, I q.y, I q.z] = some [I (lenP at_ q)]) (hl : 0 <= lenP at_ q /\ lenP at_ q <= 268435456) (hs : segs.length + 1 <= 1048577) (hlen : 0 <= len /\ len <= 4000000000000000000) :
  Qhp ML [.view kSgm (segs.map sgmR), .view kMrk marks, I q.x, I q.y, I q.z, I g.x, I g.y, I g.z, I gl, I item, I feed, I lead, I st.x, I st.y, I st.z, B true, I len, I sp, I mid] =
   some [.view kSgm ((Qfv item feed lead (segs, len, at_) q).1.map sgmR), .view kMrk marks, I st.x, I st.y, I st.z, B true, I (Qfv item feed lead (segs, len, at_) q).2.1, I sp, I mid] := by
 have hap : (segs.map sgmR ++ [[I q.x, I q.y, I q.z, I (lenP at_ q), I item, I feed, I lead]]) = (segs ++ [(⟨q, lenP at_ q, item, feed, lead⟩ : Sgm)]).map sgmR := by rw [List.map_append]; rfl
 rw [mf_path_builder_add_eq]
 try dsimp only [go_sem]
 rcases segs_last st segs with h | ⟨l, s, h1, h2, h3, h4⟩
 ·subst h
  have hat' : st = at_ := hat
  subst hat'
  simp only [List.map_nil, List.length_nil]
  rw [Qcl (by decide), Bool.not_true, cond_false]
  by_cases c : q = st
  ·have c4 := pt_ext.1 c
   rw [Qob (by simp [c4.1, c4.2.1, c4.2.2]), show Qfv item feed lead ([], len, st) q = ([], len, st) from if_pos c]
   rfl
  ·rw [Qky, hL]
   ·simp only [Option.bind_some, Qjm, Qiz, gA, jA, wA, bA, List.nil_append, List.length_cons, List.length_nil]
    rw [Qob (by decide), show Qfv item feed lead ([], len, st) q = ([⟨q, lenP st q, item, feed, lead⟩], len + lenP st q, q) from if_neg c, Qab (by omega)]
    rfl
   ·have c2 : ¬ (q.x = st.x /\ q.y = st.y /\ q.z = st.z) := fun g => c (pt_ext.2 g)
    simp only [Bool.and_true, Bool.and_eq_false_iff, beq_eq_false_iff_ne]
    omega
 ·rw [hat] at h2
  have w1 : IntKind.i64.wrap ((segs.length : Int) - 1) = ((segs.length - 1 : Nat) : Int) := by rw [Qab (by omega)]; omega
  have hin : (0 : Int) <= ((segs.length - 1 : Nat) : Int) /\ ((segs.length - 1 : Nat) : Int) < (segs.length : Int) := by omega
  rw [h2] at hL hap ⊢
  clear h1
  simp only [go_sem, List.length_map, w1, Int.toNat_natCast, h4, if_pos h3, if_pos hin, hL, List.length_append, List.length_cons, List.length_nil]
  rw [if_neg (by simp)]
  by_cases c : q = s.to
  ·have c4 := pt_ext.1 c
   rw [if_pos ⟨c4.1, c4.2.1, c4.2.2, trivial⟩, show Qfv item feed lead (segs, len, s.to) q = (segs, len, s.to) from if_pos c]
  ·rw [if_neg (fun g => c (pt_ext.2 ⟨g.1, g.2.1, g.2.2.1⟩)), if_pos (by omega), show Qfv item feed lead (segs, len, s.to) q = (segs ++ [⟨q, lenP s.to q, item, feed, lead⟩], len + lenP s.to q, q) from if_neg c, Qab (by rw [<- h2] at *; omega), hap]
noncomputable def stepM (it : Itm) (item feed lead : Int) (s : (List Sgm × Int × Pt) × Int) (q : Pt) : (List Sgm × Int × Pt) × Int :=
 (Qfv item feed lead s.1 q, if smI it /\ q = Qba it then (Qfv item feed lead s.1 q).2.1 else s.2)
theorem stepM_fst {it : Itm} {item feed lead : Int} : ∀ (pts : List Pt) (s : (List Sgm × Int × Pt) × Int), (pts.foldl (stepM it item feed lead) s).1 = pts.foldl (Qfv item feed lead) s.1
 | [], _ => rfl
 | q :: pts, s => by rw [List.foldl_cons, List.foldl_cons, stepM_fst pts]; rfl
theorem st_move {MM MSm MA MP MG MR : List AC -> Option (List AC)} {it : Itm} {pts : List Pt} {j : Nat} (hj : j < pts.length) (hpl : pts.length <= 1000000) {segs segs' : List (List AC)} {marks : List (List AC)} {g st st' : Pt} {b b' : Bool} {gl item feed lead len len' sp mid : Int}
  (hM : MSm (itmR it) = some [B (decide (smI it))]) (hC : MM (itmR it) = some (ptR (Qba it)))
  (hA : MA [.view kSgm segs, .view kMrk marks, I pts[j].x, I pts[j].y, I pts[j].z, I g.x, I g.y, I g.z, I gl, I item, I feed, I lead, I st.x, I st.y, I st.z, B b, I len, I sp, I mid] = some [.view kSgm segs', .view kMrk marks, I st'.x, I st'.y, I st'.z, B b', I len', I sp, I mid]) :
  Qc6 MM MSm MA MP MG MR (.view kSgm segs :: .view kMrk marks :: .view kPt (pts.map ptR) :: I pts.length :: I j :: (itmR it ++ [I g.x, I g.y, I g.z, I gl, I item, I feed, I lead, I st.x, I st.y, I st.z, B b, I len, I sp, I mid])) =
   some (0, .view kSgm segs' :: .view kMrk marks :: .view kPt (pts.map ptR) :: I pts.length :: I (j + 1 : Nat) :: (itmR it ++ [I g.x, I g.y, I g.z, I gl, I item, I feed, I lead, I st'.x, I st'.y, I st'.z, B b', I len', I sp, I (if smI it /\ pts[j] = Qba it then len' else mid)])) := by
 have hr : nth [] (pts.map ptR) j = ptR pts[j] := nth_map _ _ _ _ hj
 have hin : (0 : Int) <= (j : Int) /\ (j : Int) < (pts.length : Int) := by omega
 have hw : IntKind.i64.wrap ((j : Int) + 1) = ((j + 1 : Nat) : Int) := by rw [Qab (by omega)]; omega
 generalize pts[j] = q at *
 simp only [itmR] at hM hC
 simp only [itmR, List.cons_append, List.nil_append]
 rw [Qk6]
 simp only [go_sem, List.length_map, Int.toNat_natCast, hr, if_pos hin, hA, hM, hC, hw]
 rw [if_pos (by omega)]
 by_cases c : smI it
 ·rw [if_pos c]
  by_cases c2 : q = Qba it
  ·have c3 := pt_ext.1 c2
   rw [if_pos ⟨c3.1, c3.2.1, c3.2.2, trivial⟩, if_pos ⟨c, c2⟩]
  ·rw [if_neg (fun h => c2 (pt_ext.2 ⟨h.1, h.2.1, h.2.2.1⟩)), if_neg (fun h => c2 h.2)]
 ·rw [if_neg c, if_neg (fun h => c h.1)]
theorem l_move {MM MSm MA MP MG MR : List AC -> Option (List AC)} {it : Itm} {pts : List Pt} (hpl : pts.length <= 1000000) {marks : List (List AC)} {g st : Pt} {gl item feed lead sp : Int} (hst : bd 67108864 st) (hpts : ∀ p ∈ pts, bd 67108864 p)
  (hM : MSm (itmR it) = some [B (decide (smI it))]) (hC : MM (itmR it) = some (ptR (Qba it)))
  (hA : ∀ {segs : List Sgm} {q at_ : Pt} {len mid : Int}, endOf st segs = at_ -> bd 67108864 at_ -> bd 67108864 q -> segs.length + 1 <= 1048577 -> (0 <= len /\ len <= 4000000000000000000) ->
   MA [.view kSgm (segs.map sgmR), .view kMrk marks, I q.x, I q.y, I q.z, I g.x, I g.y, I g.z, I gl, I item, I feed, I lead, I st.x, I st.y, I st.z, B true, I len, I sp, I mid] =
   some [.view kSgm ((Qfv item feed lead (segs, len, at_) q).1.map sgmR), .view kMrk marks, I st.x, I st.y, I st.z, B true, I (Qfv item feed lead (segs, len, at_) q).2.1, I sp, I mid]) :
  ∀ (k j : Nat) (s : List Sgm × Int × Pt) (mid : Int), j + k = pts.length -> s.1.length + k <= 1048576 -> 0 <= s.2.1 -> s.2.1 + k * 268435456 <= 4000000000000000000 -> bd 67108864 s.2.2 -> endOf st s.1 = s.2.2 ->
  Qb1 (Qc6 MM MSm MA MP MG MR) (.view kSgm (s.1.map sgmR) :: .view kMrk marks :: .view kPt (pts.map ptR) :: I pts.length :: I j :: (itmR it ++ [I g.x, I g.y, I g.z, I gl, I item, I feed, I lead, I st.x, I st.y, I st.z, B true, I s.2.1, I sp, I mid])) =
   some (1, [.view kSgm (((pts.drop j).foldl (stepM it item feed lead) (s, mid)).1.1.map sgmR), .view kMrk marks, I st.x, I st.y, I st.z, B true, I ((pts.drop j).foldl (stepM it item feed lead) (s, mid)).1.2.1, I sp, I ((pts.drop j).foldl (stepM it item feed lead) (s, mid)).2])
 | 0, j, s, mid, hj, _, _, _, _, _ => by
  refine Qcj ?_ (by simp)
  simp only [itmR, List.cons_append, List.nil_append]
  rw [Qk6, Qcl (by omega), List.drop_of_length_le (by omega)]
  rfl
 | k + 1, j, s, mid, hj, hs, hl0, hl1, hat, he => by
  have hlt : j < pts.length := by omega
  have hq := hpts _ (List.getElem_mem hlt)
  obtain ⟨segs, len, at_⟩ := s
  simp only at hs hl0 hl1 hat he
  have ha := hA (q := pts[j]) (mid := mid) he hat hq (by omega) (by constructor <;> omega)
  have hstep := st_move (MP := MP) (MG := MG) (MR := MR) hlt hpl hM hC ha
  have hinv : endOf st (Qfv item feed lead (segs, len, at_) pts[j]).1 = (Qfv item feed lead (segs, len, at_) pts[j]).2.2 /\ bd 67108864 (Qfv item feed lead (segs, len, at_) pts[j]).2.2 /\
    (Qfv item feed lead (segs, len, at_) pts[j]).1.length <= segs.length + 1 /\ 0 <= (Qfv item feed lead (segs, len, at_) pts[j]).2.1 /\ (Qfv item feed lead (segs, len, at_) pts[j]).2.1 <= len + 268435456 := by
   have hl := len_bd hat hq
   unfold Qfv
   split
   ·exact ⟨he, hat, by simp, hl0, by simp only; omega⟩
   ·refine ⟨endOf_snoc _ _ _, hq, by simp, ?_, ?_⟩ <;> simp only <;> omega
  rw [Qb8 hstep]
  obtain ⟨i1, i2, i3, i4, i5⟩ := hinv
  have := l_move (MP := MP) (MG := MG) (MR := MR) hpl hst hpts hM hC hA k (j + 1) (Qfv item feed lead (segs, len, at_) pts[j]) (if smI it /\ pts[j] = Qba it then (Qfv item feed lead (segs, len, at_) pts[j]).2.1 else mid) (by omega) (by omega) i4 (by omega) i2 i1
  rw [this, Qfd pts j hlt, List.foldl_cons]
  rfl
theorem chords_head {it : Itm} (h : Qfa it) : ∃ l, Qdy it = fine it.fr :: l := by
 unfold Qdy
 by_cases h3 : it.kind = 3
 ·rw [if_pos h3]
  unfold Qez
  rw [List.map_cons]
  refine ⟨(pcsL it.dir 16 it.full (endS it it.fr) (endS it it.to)).map (chPt it), ?_⟩
  congr 1
  obtain ⟨hp, -, hc, -⟩ := h.2.2.2 h3
  obtain ⟨f1, f2, f3⟩ := Ql7 it.plane it.ce
  unfold chPt endS
  simp only [f1, f2]
  unfold dU dW
  have e1 : plU it.plane it.ce * 16 + (plU it.plane it.fr - plU it.plane it.ce) * 16 = plU it.plane it.fr * 16 := by omega
  have e2 : plW it.plane it.ce * 16 + (plW it.plane it.fr - plW it.plane it.ce) * 16 = plW it.plane it.fr * 16 := by omega
  rw [e1, e2]
  unfold spP plU plW plH fine
  rcases hp with hp | hp | hp <;> rw [hp] <;> rfl
 ·rw [if_neg h3]; exact ⟨_, rfl⟩
theorem points_head {items : List Itm} {i : Nat} (h : Qfa (itA items i)) : ∃ l, Qdg items i (-1) = fine (itA items i).fr :: l := by
 obtain ⟨l, hl⟩ := chords_head h
 unfold Qdg
 split
 ·unfold headP
  rw [if_neg (by omega), hl]
  exact ⟨_, rfl⟩
 ·exact ⟨l, hl⟩
noncomputable def motM (items : List Itm) (i : Nat) (s : BSt) (mid : Int) : (List Sgm × Int × Pt) × Int :=
 (Qdg items i s.frm).foldl (stepM (itA items i) i (rate (itA items i) s.speed) (leadI (itA items i))) ((s.segs, s.len, if s.begun = true then s.at_ else fine (itA items i).fr), mid)
theorem motM_fst (items : List Itm) (i : Nat) (s : BSt) (mid : Int) : (motM items i s mid).1 = motS items i s := by
 unfold motM motS
 rw [stepM_fst]
theorem a_path_move {MM MSm MA MP MG MR : List AC -> Option (List AC)} {items : List Itm} {i : Nat} {s : BSt} {marks : List (List AC)} {mid : Int} (hi : i < items.length) (hlen : items.length <= 15) (hv : Qfa (itA items i)) (hok : BOK items i s) (hinv : BInv s)
  (hpts : (∀ p ∈ Qdg items i s.frm, bd 67108864 p) /\ (Qdg items i s.frm).length <= 65537)
  (hfeed : syI (itA items i) -> 0 <= (itA items i).feed /\ (itA items i).feed <= 60000000) (hfrm : s.begun = false -> s.frm = -1)
  (hM : MSm (itmR (itA items i)) = some [B (decide (smI (itA items i)))]) (hC : MM (itmR (itA items i)) = some (ptR (Qba (itA items i))))
  (hG : MG (itmR (itA items i)) = some [B (decide (syI (itA items i)))]) (hR : MR (itmR (itA items i) ++ [I s.speed]) = some [I (rate (itA items i) s.speed)])
  (hP : MP [.view kItm (items.map itmR), I i, I s.frm] = some [.view kPt ((Qdg items i s.frm).map ptR)])
  (hA : ∀ {segs : List Sgm} {q g st at_ : Pt} {gl item feed lead len mid : Int}, endOf st segs = at_ -> bd 67108864 at_ -> bd 67108864 q -> segs.length + 1 <= 1048577 -> (0 <= len /\ len <= 4000000000000000000) ->
   MA [.view kSgm (segs.map sgmR), .view kMrk marks, I q.x, I q.y, I q.z, I g.x, I g.y, I g.z, I gl, I item, I feed, I lead, I st.x, I st.y, I st.z, B true, I len, I s.speed, I mid] =
   some [.view kSgm ((Qfv item feed lead (segs, len, at_) q).1.map sgmR), .view kMrk marks, I st.x, I st.y, I st.z, B true, I (Qfv item feed lead (segs, len, at_) q).2.1, I s.speed, I mid])
  (hA0 : ∀ {q g st : Pt} {gl item feed lead len mid : Int}, MA [.view kSgm [], .view kMrk marks, I q.x, I q.y, I q.z, I g.x, I g.y, I g.z, I gl, I item, I feed, I lead, I st.x, I st.y, I st.z, B false, I len, I s.speed, I mid] =
   some [.view kSgm [], .view kMrk marks, I q.x, I q.y, I q.z, B true, I len, I s.speed, I mid]) :
  Qkl MM MSm MA MP MG MR (Qb1 (Qc6 MM MSm MA MP MG MR)) [.view kSgm (s.segs.map sgmR), .view kMrk marks, .view kItm (items.map itmR), I i, I s.frm, I s.start.x, I s.start.y, I s.start.z, B s.begun, I s.len, I s.speed, I mid] =
   some [.view kSgm ((motM items i s mid).1.1.map sgmR), .view kMrk marks, B true, I (if s.begun = true then s.start else fine (itA items i).fr).x, I (if s.begun = true then s.start else fine (itA items i).fr).y, I (if s.begun = true then s.start else fine (itA items i).fr).z, B true, I (motM items i s mid).1.2.1, I s.speed, I (motM items i s mid).2] := by
 have hr := Qlu hi
 have hin : (0 : Int) <= (i : Int) /\ (i : Int) < (items.length : Int) := by omega
 have hsg := hok.segs
 have hln := hok.len
 -- the loop's answer, whatever the lead
 have hloop : ∀ lead feed : Int, Qb1 (Qc6 MM MSm MA MP MG MR) (.view kSgm (s.segs.map sgmR) :: .view kMrk marks :: .view kPt ((Qdg items i s.frm).map ptR) :: I (Qdg items i s.frm).length :: I (0 : Nat) :: (itmR (itA items i) ++ [I (⟨0, 0, 0⟩ : Pt).x, I (⟨0, 0, 0⟩ : Pt).y, I (⟨0, 0, 0⟩ : Pt).z, I 0, I i, I feed, I lead, I s.start.x, I s.start.y, I s.start.z, B s.begun, I s.len, I s.speed, I mid])) =
   some (1, [.view kSgm (((Qdg items i s.frm).foldl (stepM (itA items i) i feed lead) ((s.segs, s.len, if s.begun = true then s.at_ else fine (itA items i).fr), mid)).1.1.map sgmR), .view kMrk marks, I (if s.begun = true then s.start else fine (itA items i).fr).x, I (if s.begun = true then s.start else fine (itA items i).fr).y, I (if s.begun = true then s.start else fine (itA items i).fr).z, B true,
    I ((Qdg items i s.frm).foldl (stepM (itA items i) i feed lead) ((s.segs, s.len, if s.begun = true then s.at_ else fine (itA items i).fr), mid)).1.2.1, I s.speed, I ((Qdg items i s.frm).foldl (stepM (itA items i) i feed lead) ((s.segs, s.len, if s.begun = true then s.at_ else fine (itA items i).fr), mid)).2]) := by
  intro lead feed
  by_cases hb : s.begun = true
  ·obtain ⟨g1, g2⟩ := hinv.begun hb
   obtain ⟨g3, g4, g5⟩ := g2
   rw [if_pos hb, if_pos hb, hb]
   have := l_move (MP := MP) (MG := MG) (MR := MR) (g := ⟨0, 0, 0⟩) (gl := 0) (item := i) (feed := feed) (lead := lead) (by omega) g1 hpts.1 hM hC (fun h1 h2 h3 h4 h5 => hA h1 h2 h3 h4 h5) (Qdg items i s.frm).length 0 (s.segs, s.len, s.at_) mid (by omega) (by simp only; omega) hln.1 (by simp only; omega) (hok.at_ hb) g4
   rw [List.drop_zero] at this
   exact this
  ·have hb2 : s.begun = false := by simpa using hb
   obtain ⟨e1, e2, e3⟩ := hinv.empty hb2
   obtain ⟨l, hl⟩ := points_head hv
   have hfr : bd 67108864 (fine (itA items i).fr) := Qau (Qg6 hv.2.1) (by decide)
   rw [if_neg hb, if_neg hb, hb2, e1]
   rw [hfrm hb2, hl] at hpts ⊢
   have h0 : 0 < (fine (itA items i).fr :: l).length := by simp
   have hstep := st_move (MP := MP) (MG := MG) (MR := MR) h0 (by omega) hM hC (hA0 (q := fine (itA items i).fr) (g := ⟨0, 0, 0⟩) (st := s.start) (gl := 0) (item := i) (feed := feed) (lead := lead) (len := s.len) (mid := mid))
   rw [List.map_nil, Qb8 hstep]
   have := l_move (MP := MP) (MG := MG) (MR := MR) (g := ⟨0, 0, 0⟩) (gl := 0) (item := i) (feed := feed) (lead := lead) (by omega) hfr hpts.1 hM hC (fun h1 h2 h3 h4 h5 => hA h1 h2 h3 h4 h5) l.length 1 ([], s.len, fine (itA items i).fr) (if smI (itA items i) /\ fine (itA items i).fr = Qba (itA items i) then s.len else mid) (by simp; omega) (by simp only [List.length_nil]; simp at hpts; omega) hln.1 (by simp only; simp at hpts; omega) hfr rfl
   rw [List.drop_succ_cons, List.drop_zero] at this
   rw [List.foldl_cons]
   have e4 : stepM (itA items i) i feed lead (([], s.len, fine (itA items i).fr), mid) (fine (itA items i).fr) = (([], s.len, fine (itA items i).fr), if smI (itA items i) /\ fine (itA items i).fr = Qba (itA items i) then s.len else mid) := by
    unfold stepM
    rw [show Qfv i feed lead ([], s.len, fine (itA items i).fr) (fine (itA items i).fr) = ([], s.len, fine (itA items i).fr) from if_pos rfl]
   rw [e4]
   exact this
 have hcount : ∀ lead feed : Int, ((Qdg items i s.frm).foldl (stepM (itA items i) i feed lead) ((s.segs, s.len, if s.begun = true then s.at_ else fine (itA items i).fr), mid)).1.1.length <= 1048576 := by
  intro lead feed
  rw [stepM_fst]
  have hat : bd 67108864 (if s.begun = true then s.at_ else fine (itA items i).fr) := by
   split
   ·rename_i hb; exact hok.at_ hb
   ·exact Qau (Qg6 hv.2.1) (by decide)
  have := (fold_bd (item := i) (feed := feed) (lead := lead) (Qdg items i s.frm) (s.segs, s.len, if s.begun = true then s.at_ else fine (itA items i).fr) hpts.1 hat hln.1).1
  simp only at this ⊢
  omega
 generalize Qb1 (Qc6 MM MSm MA MP MG MR) = N at *
 have hlp := fun lead feed => hloop lead feed
 simp only [itmR, List.cons_append, List.nil_append] at hG hR hlp
 rw [mf_path_builder_move_eq]
 simp only [go_sem, List.length_map, Int.toNat_natCast, hr, if_pos hin, hG, hR, hP]
 have h00 : ((0 : Nat) : Int) = 0 := rfl
 simp only [h00] at hlp
 unfold motM leadI
 by_cases hs : syI (itA items i)
 ·have hf := hfeed hs
  rw [if_pos hs]
  simp only [if_pos hs]
  rw [Qab (by omega)]
  simp only [hlp, go_sem, List.length_map]
  rw [decide_eq_true (show ((_ : Nat) : Int) <= 1048576 from by have := hcount (mn ((itA items i).feed * 16) 16777216) (rate (itA items i) s.speed); omega)]
 ·rw [if_neg hs]
  simp only [if_neg hs]
  simp only [hlp, go_sem, List.length_map]
  rw [decide_eq_true (show ((_ : Nat) : Int) <= 1048576 from by have := hcount 0 (rate (itA items i) s.speed); omega)]
end Go.Bm
/- the program's path of up to 15 items, and what is settled of it -/
set_option maxRecDepth 100000
namespace Go.Bm
open Classical

theorem l_path_check {MK MV MN MS MM MC : List AC -> Option (List AC)} {items : List Itm} (hM : ∀ k : Int, MM [I k] = some [B (decide (1 <= k /\ k <= 6))]) (hW : ∀ it, MC (itmR it) = some [I (if Qgo it then 1 else 0)]) (hl : items.length <= 1000000) :
  ∀ (k i : Nat) (last : Int), i + k = items.length -> (last = -1 \/ (0 <= last /\ last < i)) ->
  (Qb1 (Qi5 MK MV MN MS MM MC) [.view kSgm [], .view kMrk [], .view kItm (items.map itmR), I last, .view kItm (items.map itmR), I items.length, I i, I 0, I 0, I 0, B false, I 0, I 0, I 0] = some (1, [.view kSgm [], .view kMrk [], I (chkF items k i last), I 0, I 0, I 0, B false, I 0, I 0, I 0]) /\ chkF items k i last ≠ 0) \/
  (Qb1 (Qi5 MK MV MN MS MM MC) [.view kSgm [], .view kMrk [], .view kItm (items.map itmR), I last, .view kItm (items.map itmR), I items.length, I i, I 0, I 0, I 0, B false, I 0, I 0, I 0] = some (2, [.view kSgm [], .view kMrk [], .view kItm (items.map itmR), I 0, I 0, I 0, B false, I 0, I 0, I 0]) /\ chkF items k i last = 0)
 | 0, i, last, hi, _ => by
  right
  refine ⟨Qcj ?_ (by simp), rfl⟩
  rw [st_path_build_6_eq, Qcl (by omega)]
 | k + 1, i, last, hi, hla => by
  have hlt : i < items.length := by omega
  have hr := Qlu hlt
  have hw := hW (itA items i)
  have hm := hM (itA items i).kind
  have hin : (0 : Int) <= (i : Int) /\ (i : Int) < (items.length : Int) := by omega
  have hst : Qi5 MK MV MN MS MM MC [.view kSgm [], .view kMrk [], .view kItm (items.map itmR), I last, .view kItm (items.map itmR), I items.length, I i, I 0, I 0, I 0, B false, I 0, I 0, I 0] =
    if Qgo (itA items i) then some (1, [.view kSgm [], .view kMrk [], I 1, I 0, I 0, I 0, B false, I 0, I 0, I 0]) else if motI (itA items i) then (if 0 <= last /\ (itA items last.toNat).to ≠ (itA items i).fr then some (1, [.view kSgm [], .view kMrk [], I 13, I 0, I 0, I 0, B false, I 0, I 0, I 0]) else some (0, [.view kSgm [], .view kMrk [], .view kItm (items.map itmR), I i, .view kItm (items.map itmR), I items.length, I (i + 1 : Nat), I 0, I 0, I 0, B false, I 0, I 0, I 0]))
    else some (0, [.view kSgm [], .view kMrk [], .view kItm (items.map itmR), I last, .view kItm (items.map itmR), I items.length, I (i + 1 : Nat), I 0, I 0, I 0, B false, I 0, I 0, I 0]) := by
   rw [st_path_build_6_eq]
   simp only [itmR] at hw
   simp only [go_sem, List.length_map, Int.toNat_natCast, hr, hw, hm, if_pos hin]
   rw [if_pos (by omega), Qab (by omega)]
   by_cases c1 : Qgo (itA items i)
   ·simp only [if_pos c1]
    rw [if_pos (by omega)]
   simp only [if_neg c1]
   rw [if_neg (by simp)]
   by_cases c2 : motI (itA items i)
   ·rw [if_neg (fun h => h c2), if_pos c2]
    rcases hla with rfl | ⟨h1, h2⟩
    ·rw [if_neg (show ¬ (-1 : Int) >= 0 by omega), if_neg (fun h => by omega)]; rfl
    ·obtain ⟨L, rfl⟩ := Int.eq_ofNat_of_zero_le h1
     have hL : L < items.length := by omega
     have hin2 : (0 : Int) <= (L : Int) /\ (L : Int) < (items.length : Int) := by omega
     have hr2 := Qlu hL
     simp only [Int.toNat_natCast, hr2, go_sem, if_pos hin2]
     rw [if_pos (by omega)]
     by_cases c3 : (itA items L).to = (itA items i).fr
     ·have c4 := pt_ext.1 c3
      rw [if_neg (fun h => h ⟨c4.1, c4.2.1, c4.2.2, trivial⟩), if_neg (fun h => h.2 c3)]; rfl
     ·rw [if_pos (fun h => c3 (pt_ext.2 ⟨h.1, h.2.1, h.2.2.1⟩)), if_pos ⟨h1, c3⟩]
   ·rw [if_pos (show ¬ (1 <= (itA items i).kind /\ (itA items i).kind <= 6) from c2), if_neg c2]; rfl
  unfold chkF
  by_cases c1 : Qgo (itA items i)
  ·rw [if_pos c1] at hst ⊢
   exact .inl ⟨Qcj hst (by simp), by simp⟩
  ·rw [if_neg c1] at hst ⊢
   by_cases c2 : motI (itA items i)
   ·rw [if_pos c2] at hst ⊢
    by_cases c3 : 0 <= last /\ (itA items last.toNat).to ≠ (itA items i).fr
    ·rw [if_pos c3] at hst ⊢
     exact .inl ⟨Qcj hst (by simp), by simp⟩
    ·rw [if_neg c3] at hst ⊢
     rw [Qb8 hst]
     exact l_path_check hM hW hl k (i + 1) i (by omega) (.inr (by omega))
   ·rw [if_neg c2] at hst ⊢
    rw [Qb8 hst]
    exact l_path_check hM hW hl k (i + 1) last (by omega) (by omega)

noncomputable def lastM (items : List Itm) : Nat -> Int
 | 0 => -1
 | i + 1 => if motI (itA items i) then i else lastM items i
theorem lastM_spec (items : List Itm) : ∀ i, lastM items i = -1 \/ ∃ L : Nat, lastM items i = L /\ L < i /\ motI (itA items L) /\ ∀ j, L < j -> j < i -> ¬ motI (itA items j)
 | 0 => .inl rfl
 | i + 1 => by
  unfold lastM
  by_cases c : motI (itA items i)
  ·rw [if_pos c]
   exact .inr ⟨i, rfl, by omega, c, fun j h1 h2 => by omega⟩
  ·rw [if_neg c]
   rcases lastM_spec items i with h | ⟨L, h1, h2, h3, h4⟩
   ·exact .inl h
   ·refine .inr ⟨L, h1, by omega, h3, fun j g1 g2 => ?_⟩
    by_cases e : j = i
    ·rw [e]; exact c
    ·exact h4 j g1 (by omega)
theorem frm_last (items : List Itm) : ∀ i, (Qbi items i).frm = if 0 <= lastM items i /\ 0 <= Qiw items (lastM items i).toNat then lastM items i else -1
 | 0 => by rw [Qbi, lastM, if_neg (by omega)]
 | i + 1 => by
  rw [Qbi, lastM]
  unfold bStep
  by_cases c : motI (itA items i)
  ·rw [if_pos c, if_pos c]
   simp only [Int.toNat_natCast]
   by_cases c2 : 0 <= Qiw items i
   ·rw [if_pos c2, if_pos ⟨by omega, c2⟩]
   ·rw [if_neg c2, if_neg (fun h => c2 h.2)]
  ·rw [if_neg c, if_neg c]
   exact frm_last items i
theorem soft_here {items : List Itm} {i L : Nat} (hL : L < i) (hi : i < items.length) (hm : motI (itA items i)) (hno : ∀ j, L < j -> j < i -> ¬ motI (itA items j)) (hs : 0 <= Qiw items L) : nextN items L = i := by
 have h1 := soft_next hs
 rcases softK_spec items L with h | ⟨-, -, k, k1, k2, k3, k4, k5⟩
 ·omega
 ·have hk : nextN items L = k := by omega
  rw [hk]
  rcases Nat.lt_trichotomy k i with h | h | h
  ·exact absurd ⟨by have := k4.1; omega, by have := k4.1; omega⟩ (hno k k2 h)
  ·exact h
  ·have := k5 i hL h
   have := hm.2
   omega
noncomputable def midN (items : List Itm) : Nat -> Int
 | 0 => 0
 | i + 1 => if motI (itA items i) then (motM items i (Qbi items i) (midN items i)).2 else midN items i
theorem frm_begun (items : List Itm) : ∀ i, (Qbi items i).begun = false -> (Qbi items i).frm = -1
 | 0, _ => by rw [Qbi]
 | i + 1, h => by
  rw [Qbi] at h ⊢
  unfold bStep at h ⊢
  by_cases c : motI (itA items i)
  ·rw [if_pos c] at h; cases h
  ·rw [if_neg c] at h ⊢
   exact frm_begun items i h
noncomputable abbrev pbR (items : List Itm) (i : Nat) : List AC :=
 [.view kSgm ((Qbi items i).segs.map sgmR), .view kMrk ((Qbi items i).marks.map mrkR), .view kItm (items.map itmR), I (lastM items i), .view kItm (items.map itmR), I items.length, I i, I (Qbi items i).start.x, I (Qbi items i).start.y, I (Qbi items i).start.z, B (Qbi items i).begun, I (Qbi items i).len, I (Qbi items i).speed, I (midN items i)]
theorem st_build18 {MK MV MN MS MM MC : List AC -> Option (List AC)} {N6 : List AC -> Option (Nat × List AC)} {items : List Itm} {i : Nat} (hi : i < items.length) (hlen : items.length <= 15) (hmk : (Qbi items i).marks.length = i)
  (hM : ∀ k : Int, MM [I k] = some [B (decide (1 <= k /\ k <= 6))]) (hS : ∀ L : Nat, L < items.length -> MS [.view kItm (items.map itmR), I L] = some [B (decide (0 <= Qiw items L))]) (hN : ∀ L : Nat, L < items.length -> MN [.view kItm (items.map itmR), I L] = some [I (nextN items L)])
  (hV : motI (itA items i) -> MV [.view kSgm ((Qbi items i).segs.map sgmR), .view kMrk ((Qbi items i).marks.map mrkR), .view kItm (items.map itmR), I i, I (Qbi items i).frm, I (Qbi items i).start.x, I (Qbi items i).start.y, I (Qbi items i).start.z, B (Qbi items i).begun, I (Qbi items i).len, I (Qbi items i).speed, I (midN items i)] =
   some [.view kSgm ((motM items i (Qbi items i) (midN items i)).1.1.map sgmR), .view kMrk ((Qbi items i).marks.map mrkR), B true, I (if (Qbi items i).begun = true then (Qbi items i).start else fine (itA items i).fr).x, I (if (Qbi items i).begun = true then (Qbi items i).start else fine (itA items i).fr).y, I (if (Qbi items i).begun = true then (Qbi items i).start else fine (itA items i).fr).z, B true,
    I (motM items i (Qbi items i) (midN items i)).1.2.1, I (Qbi items i).speed, I (motM items i (Qbi items i) (midN items i)).2])
  (hK : ∀ {segs : List (List AC)} {st : Pt} {b : Bool} {len sp mid : Int}, MK [.view kSgm segs, .view kMrk ((Qbi items i).marks.map mrkR), .view kItm (items.map itmR), I i, I st.x, I st.y, I st.z, B b, I len, I sp, I mid] =
   some [.view kSgm segs, .view kMrk (((Qbi items i).marks ++ [(⟨len, markK items i, i⟩ : Mrk)]).map mrkR), I st.x, I st.y, I st.z, B b, I len, I sp, I mid]) :
  Qhv MK MV MN MS MM MC N6 (pbR items i) = some (0, pbR items (i + 1)) := by
 have hr := Qlu hi
 have hin : (0 : Int) <= (i : Int) /\ (i : Int) < (items.length : Int) := by omega
 have hw : IntKind.i64.wrap ((i : Int) + 1) = ((i + 1 : Nat) : Int) := by rw [Qab (by omega)]; omega
 have hf := frm_last items i
 have hls := lastM_spec items i
 have hfst := motM_fst items i (Qbi items i) (midN items i)
 have e1 : lastM items (i + 1) = if motI (itA items i) then (i : Int) else lastM items i := rfl
 have e2 : midN items (i + 1) = if motI (itA items i) then (motM items i (Qbi items i) (midN items i)).2 else midN items i := rfl
 have e3 : Qbi items (i + 1) = bStep items i (Qbi items i) := rfl
 unfold pbR
 rw [e1, e2, e3]
 generalize Qbi items i = s at *
 generalize lastM items i = last at *
 generalize hmi : midN items i = mid at *
 unfold bStep
 rw [st_path_build_18_eq]
 by_cases hm : motI (itA items i)
 ·have h8 : ¬ (itA items i).kind = 8 := fun h => by have := hm.2; omega
  have hV := hV hm
  have hmk2 : markK items i = kindK items i := if_pos hm
  rw [if_pos hm, if_pos hm, if_pos hm]
  rw [hfst] at hV
  have hM2 : MM [I (itA items i).kind] = some [B true] := by rw [hM, decide_eq_true (show 1 <= (itA items i).kind /\ (itA items i).kind <= 6 from hm)]
  simp only [go_sem, List.length_map, Int.toNat_natCast, hr, if_pos hin, hM2]
  rw [if_pos (by omega), if_neg h8]
  have hbef : ∀ {x : Option (Nat × List AC)} {frm : Int}, s.frm = frm -> (MV [.view kSgm (s.segs.map sgmR), .view kMrk (s.marks.map mrkR), .view kItm (items.map itmR), I i, I frm, I s.start.x, I s.start.y, I s.start.z, B s.begun, I s.len, I s.speed, I mid]) =
    some [.view kSgm ((motS items i s).1.map sgmR), .view kMrk (s.marks.map mrkR), B true, I (if s.begun = true then s.start else fine (itA items i).fr).x, I (if s.begun = true then s.start else fine (itA items i).fr).y, I (if s.begun = true then s.start else fine (itA items i).fr).z, B true, I (motS items i s).2.1, I s.speed, I (motM items i s mid).2] := by
   intro x frm h; rw [<- h]; exact hV
  rcases hls with hls | ⟨L, h1, h2, h3, h4⟩
  ·rw [hls]
   rw [hls, if_neg (by omega)] at hf
   rw [if_neg (show ¬ (-1 : Int) >= 0 by omega)]
   have hv := hbef (x := none) hf
   simp only [hv, go_sem, hK, hw, hmk2]
   simp
  ·rw [h1] at hf ⊢
   rw [Int.toNat_natCast] at hf
   have hs := hS L (by omega)
   have hn := hN L (by omega)
   rw [if_pos (show (L : Int) >= 0 by omega)]
   by_cases c : 0 <= Qiw items L
   ·have hnx := soft_here h2 hi hm h4 c
    rw [if_pos ⟨by omega, c⟩] at hf
    rw [hnx] at hn
    rw [decide_eq_true c] at hs
    have hv := hbef (x := none) hf
    simp only [hs, hn, go_sem]
    simp only [hv, go_sem, hK, hw, hmk2]
    simp
   ·rw [if_neg (fun h => c h.2)] at hf
    rw [decide_eq_false c] at hs
    have hv := hbef (x := none) hf
    simp only [hs, go_sem]
    simp only [hv, go_sem, hK, hw, hmk2]
    simp
 ·have hmk2 : markK items i = otherK (itA items i) := if_neg hm
  rw [if_neg hm, if_neg hm, if_neg hm]
  have hM2 : MM [I (itA items i).kind] = some [B false] := by rw [hM, decide_eq_false (show ¬ (1 <= (itA items i).kind /\ (itA items i).kind <= 6) from hm)]
  unfold spdI
  simp only [go_sem, List.length_map, Int.toNat_natCast, hr, if_pos hin, hM2, hK, hw, hmk2]
  rw [if_pos (by omega)]
  by_cases h8 : (itA items i).kind = 8
  ·by_cases h3 : (itA items i).n = 3
   ·simp [h8, h3]
   ·by_cases h4 : (itA items i).n = 4
    ·simp [h8, h4]
    ·simp [h8, h3, h4]
  ·simp [h8]
end Go.Bm
/- positions of a path: its length, the segment and the point at a position -/
set_option maxRecDepth 100000
namespace Go.Bm
open Classical

def midP (a : Pt) (g : Sgm) (d : Int) : Pt := ⟨a.x + near ((g.to.x - a.x) * d) g.len, a.y + near ((g.to.y - a.y) * d) g.len, a.z + near ((g.to.z - a.z) * d) g.len⟩
def atL : Pt -> List Sgm -> Int -> Pt
 | a, [], _ => a
 | a, g :: l, s => if s < g.len then midP a g s else atL g.to l (s - g.len)
def atP (p : Pth) (s : Int) : Pt := atL p.start p.segs (max s 0)
def Qmn : List Sgm -> Int -> Nat × Int
 | [], s => (0, s)
 | [g], s => if s < g.len then (0, s) else (0, g.len)
 | g :: h :: l, s => if s < g.len then (0, s) else ((Qmn (h :: l) (s - g.len)).1 + 1, (Qmn (h :: l) (s - g.len)).2)
def vertL (a : Pt) (l : List Sgm) (i : Nat) : Pt := endOf a (l.take i)
def sg0 : Sgm := ⟨⟨0, 0, 0⟩, 0, 0, 0, 0⟩
def sgA (l : List Sgm) (i : Nat) : Sgm := l.getD i sg0
theorem sgA_get {l : List Sgm} {i : Nat} (h : i < l.length) : sgA l i = l[i] := by unfold sgA; simp [h]
theorem row_sgA {l : List Sgm} {i : Nat} (h : i < l.length) : nth [] (l.map sgmR) i = sgmR (sgA l i) := by rw [sgA_get h]; exact nth_map _ _ _ _ h
theorem sgA_mem {l : List Sgm} {i : Nat} (h : i < l.length) : sgA l i ∈ l := by rw [sgA_get h]; exact List.getElem_mem h
theorem vert_zero (a : Pt) (l : List Sgm) : vertL a l 0 = a := by unfold vertL; simp [endOf]
theorem vert_cons (a : Pt) (g : Sgm) (l : List Sgm) (i : Nat) : vertL a (g :: l) (i + 1) = vertL g.to l i := by unfold vertL; rw [List.take_succ_cons]; rfl
theorem sgA_cons (g : Sgm) (l : List Sgm) (i : Nat) : sgA (g :: l) (i + 1) = sgA l i := by unfold sgA; simp
theorem vert_succ : ∀ {l : List Sgm} {i : Nat} {a : Pt}, i < l.length -> vertL a l (i + 1) = (sgA l i).to
 | g :: l, 0, a, _ => by rw [vert_cons, vert_zero]; rfl
 | g :: l, i + 1, a, h => by rw [vert_cons, sgA_cons]; exact vert_succ (by simpa using h)
theorem near_full {x n : Int} (hn : 0 < n) : near (x * n) n = x := near_mul hn
theorem mid_full {a : Pt} {g : Sgm} (h : 0 < g.len) : midP a g g.len = g.to := by
 unfold midP
 rw [near_full h, near_full h, near_full h]
 rw [pt_ext]
 exact ⟨by simp only; omega, by simp only; omega, by simp only; omega⟩
theorem find_at : ∀ {l : List Sgm} {a : Pt} {s : Int}, l ≠ [] -> (∀ g ∈ l, 1 <= g.len) -> 0 <= s ->
  (Qmn l s).1 < l.length /\ 0 <= (Qmn l s).2 /\ (Qmn l s).2 <= (sgA l (Qmn l s).1).len /\ atL a l s = midP (vertL a l (Qmn l s).1) (sgA l (Qmn l s).1) (Qmn l s).2
 | [], _, _, h, _, _ => absurd rfl h
 | [g], a, s, _, hg, hs => by
  have h1 := hg g (by simp)
  unfold Qmn
  by_cases c : s < g.len
  ·rw [if_pos c]
   refine ⟨by simp, hs, by show s <= g.len; omega, ?_⟩
   unfold atL
   rw [if_pos c, vert_zero]; rfl
  ·rw [if_neg c]
   refine ⟨by simp, by simp only; omega, Int.le_refl _, ?_⟩
   unfold atL
   rw [if_neg c, vert_zero]
   show atL g.to [] _ = midP a g g.len
   rw [mid_full (by omega)]; rfl
 | g :: h :: l, a, s, _, hg, hs => by
  have h1 := hg g (by simp)
  unfold Qmn
  by_cases c : s < g.len
  ·rw [if_pos c]
   refine ⟨by simp, hs, by show s <= g.len; omega, ?_⟩
   unfold atL
   rw [if_pos c, vert_zero]; rfl
  ·rw [if_neg c]
   obtain ⟨k1, k2, k3, k4⟩ := find_at (l := h :: l) (a := g.to) (s := s - g.len) (by simp) (fun k hk => hg k (by simp at hk ⊢; exact .inr hk)) (by omega)
   refine ⟨by simp at k1 ⊢; omega, k2, ?_, ?_⟩
   ·simp only [sgA_cons]; exact k3
   ·rw [show atL a (g :: h :: l) s = atL g.to (h :: l) (s - g.len) from by rw [atL, if_neg c]]
    simp only [vert_cons, sgA_cons]
    exact k4
theorem near_bd {x n : Int} {A : Nat} (hn : 0 < n) (h : -(A * n) <= x /\ x <= A * n) : (near x n).natAbs <= A := by
 have m1 := near_mono hn h.2
 have m2 := near_mono hn h.1
 rw [show -((A : Int) * n) = -(A : Int) * n by rw [Int.neg_mul]] at m2
 rw [near_mul hn] at m1 m2
 omega
theorem mid_bd2 {D L d : Int} (hL : 0 < L) (hD : D.natAbs <= 134217728) (hd : 0 <= d /\ d <= L) : (near (D * d) L).natAbs <= 134217728 := by
 refine near_bd hL ?_
 have h1 : D * d <= 134217728 * d := Int.mul_le_mul_of_nonneg_right (by omega) hd.1
 have h2 : -134217728 * d <= D * d := Int.mul_le_mul_of_nonneg_right (by omega) hd.1
 have e : ((134217728 : Nat) : Int) = 134217728 := rfl
 rw [e]
 omega
structure SegOK (l : List Sgm) : Prop where
 seg : ∀ g ∈ l, 1 <= g.len /\ g.len <= 268435456 /\ bd B26 g.to
 count : l.length <= 983055
theorem GoodPath.ok {p : Pth} (h : GoodPath p) : SegOK p.segs := ⟨good_len h.start h.segs, h.count⟩
theorem vert_bd {a : Pt} {l : List Sgm} (ha : bd B26 a) (h : SegOK l) {i : Nat} (hi : i < l.length) : bd B26 (vertL a l i) := by
 cases i with
 | zero => rw [vert_zero]; exact ha
 | succ i => rw [vert_succ (by omega)]; exact (h.seg _ (sgA_mem (by omega))).2.2

theorem findL_step {g h : Sgm} {l : List Sgm} {s : Int} (c : ¬ s < g.len) : Qmn (g :: h :: l) s = ((Qmn (h :: l) (s - g.len)).1 + 1, (Qmn (h :: l) (s - g.len)).2) := by rw [Qmn, if_neg c]
theorem l_path_Find {p : Pth} (h : SegOK p.segs) : ∀ (k i : Nat) (s : Int), i + k = p.segs.length -> 1 <= k -> 0 <= s /\ s <= 9223372036854775807 ->
  Qb1 st_path_Find_3 (I s :: .view kSgm (p.segs.map sgmR) :: I p.segs.length :: I i :: pthR p) = some (1, [I (i + (Qmn (p.segs.drop i) s).1 : Nat), I (Qmn (p.segs.drop i) s).2])
 | k + 1, i, s, hi, _, hs => by
  have hlt : i < p.segs.length := by omega
  have hcnt := h.count
  have hg := h.seg _ (sgA_mem hlt)
  have e : p.segs.drop i = sgA p.segs i :: p.segs.drop (i + 1) := by rw [sgA_get hlt]; exact Qfd _ _ hlt
  have hst : st_path_Find_3 (I s :: .view kSgm (p.segs.map sgmR) :: I p.segs.length :: I i :: pthR p) = if s < (sgA p.segs i).len then some (1, [I i, I s]) else if k = 0 then some (1, [I i, I (sgA p.segs i).len]) else some (0, I (s - (sgA p.segs i).len) :: .view kSgm (p.segs.map sgmR) :: I p.segs.length :: I (i + 1 : Nat) :: pthR p) := by
   rw [st_path_Find_3_eq]
   simp only [go_sem, List.length_map, Int.toNat_natCast, row_sgA hlt]
   rw [if_pos (by omega), if_pos (by omega), Qab (x := (p.segs.length : Int) - 1) (by omega), Qab (x := (i : Int) + 1) (by omega)]
   by_cases c : s < (sgA p.segs i).len
   ·rw [if_pos c, if_pos c]
   ·rw [if_neg c, if_neg c]
    by_cases c2 : k = 0
    ·rw [if_pos (by omega), if_pos c2]
    ·rw [if_neg (by omega), if_neg c2, Qab (by omega)]; rfl
  by_cases c : s < (sgA p.segs i).len
  ·rw [if_pos c] at hst
   rw [Qcj hst (by simp), e]
   cases p.segs.drop (i + 1) with
   | nil => rw [Qmn, if_pos c]; rfl
   | cons b l => rw [Qmn, if_pos c]; rfl
  ·rw [if_neg c] at hst
   by_cases c2 : k = 0
   ·rw [if_pos c2] at hst
    rw [Qcj hst (by simp), e, List.drop_of_length_le (by omega), Qmn, if_neg c]; rfl
   ·rw [if_neg c2] at hst
    rw [Qb8 hst, l_path_Find h k (i + 1) _ (by omega) (by omega) (by omega), e]
    have e2 : p.segs.drop (i + 1) = sgA p.segs (i + 1) :: p.segs.drop (i + 1 + 1) := by rw [sgA_get (show i + 1 < p.segs.length by omega)]; exact Qfd _ _ (by omega)
    rw [e2, findL_step c, <- e2]
    simp only
    rw [show i + 1 + (Qmn (p.segs.drop (i + 1)) (s - (sgA p.segs i).len)).1 = i + ((Qmn (p.segs.drop (i + 1)) (s - (sgA p.segs i).len)).1 + 1) by omega]
theorem s_path_Find {p : Pth} (h : SegOK p.segs) {s : Int} (hs : i64 s) : Ql0 (pthR p ++ [I s]) = if p.segs = [] then some [I (-1), I 0] else some [I (Qmn p.segs (max s 0)).1, I (Qmn p.segs (max s 0)).2] := by
 unfold i64 at hs
 have hmx : mx s 0 = max s 0 := mx_max' s 0
 by_cases c : p.segs = []
 ·rw [if_pos c]
  have hend : Qj4 (I (max s 0) :: .view kSgm [] :: I 0 :: I 0 :: pthR p) = some (2, []) := by
   refine Qcj ?_ (by simp)
   rw [st_path_Find_3_eq, Qcl (by omega)]
  unfold Ql0
  generalize Qj4 = N at *
  have he := mf_path_Find_eq N p.start.x p.start.y p.start.z (p.segs.map sgmR) (p.marks.map mrkR) s
  refine Eq.trans he ?_
  rw [hmx, c]
  have hend' : N [I (max s 0), .view kSgm [], I 0, I 0, I p.start.x, I p.start.y, I p.start.z, .view kSgm [], .view kMrk (p.marks.map mrkR)] = some (2, []) := by
   have := hend
   unfold pthR at this
   rw [c] at this
   exact this
  simp only [go_sem, List.map_nil, List.length_nil]
  simp only [Int.natCast_zero]
  rw [hend']
  simp
 ·rw [if_neg c]
  have hpos : 0 < p.segs.length := by
   cases hh : p.segs with
   | nil => exact absurd hh c
   | cons _ _ => simp
  have hL := l_path_Find h p.segs.length 0 (max s 0) (by omega) (by omega) (by omega)
  have hL' : Qj4 [I (max s 0), .view kSgm (p.segs.map sgmR), I p.segs.length, I 0, I p.start.x, I p.start.y, I p.start.z, .view kSgm (p.segs.map sgmR), .view kMrk (p.marks.map mrkR)] = some (1, [I (0 + (Qmn (p.segs.drop 0) (max s 0)).1 : Nat), I (Qmn (p.segs.drop 0) (max s 0)).2]) := hL
  rw [List.drop_zero, Nat.zero_add] at hL'
  unfold Ql0
  generalize Qj4 = N at *
  have he := mf_path_Find_eq N p.start.x p.start.y p.start.z (p.segs.map sgmR) (p.marks.map mrkR) s
  refine Eq.trans he ?_
  rw [hmx]
  simp only [go_sem, List.length_map, hL']
where mx_max' (a b : Int) : mx a b = max a b := by unfold mx; rw [Int.max_def]; split <;> split <;> omega
theorem a_path_At {MM MF : List AC -> Option (List AC)} {p : Pth} (h : GoodPath p) {s : Int} (hF : MF (pthR p ++ [I s]) = if p.segs = [] then some [I (-1), I 0] else some [I (Qmn p.segs (max s 0)).1, I (Qmn p.segs (max s 0)).2])
  (hM : ∀ {a b c : Int}, a.natAbs <= 134217728 -> b.natAbs <= 268435456 -> (0 < c /\ c <= 268435456) -> MM [I a, I b, I c, I 2] = some [I (near (a * b) c), B true]) :
  mf_path_At MM MF (pthR p ++ [I s]) = some (ptR (atP p s)) := by
 have he := mf_path_At_eq (Qam := MM) (Qlq := MF) p.start.x p.start.y p.start.z (p.segs.map sgmR) (p.marks.map mrkR) s
 refine Eq.trans he ?_
 simp only [List.cons_append, List.nil_append, pthR] at hF
 unfold atP
 by_cases c : p.segs = []
 ·rw [if_pos c] at hF
  simp only [hF, go_sem]
  rw [if_pos (by omega), c]; rfl
 ·rw [if_neg c] at hF
  have hok := h.ok
  obtain ⟨f1, f2, f3, f4⟩ := find_at (l := p.segs) (a := p.start) (s := max s 0) c (fun g hg => (hok.seg g hg).1) (by omega)
  rw [f4]
  have hg := hok.seg _ (sgA_mem f1)
  have hv := vert_bd h.start hok f1
  have hr := row_sgA f1
  have hcnt := hok.count
  generalize (Qmn p.segs (max s 0)).1 = i at *
  generalize (Qmn p.segs (max s 0)).2 = d at *
  have hdn : d.natAbs <= 268435456 := by omega
  have fin : ∀ {a : Pt}, bd B26 a -> (MM [I (IntKind.i64.wrap ((sgA p.segs i).to.x - a.x)), I d, I (sgA p.segs i).len, I 2] = some [I (near (((sgA p.segs i).to.x - a.x) * d) (sgA p.segs i).len), B true] /\ IntKind.i64.wrap (a.x + near (((sgA p.segs i).to.x - a.x) * d) (sgA p.segs i).len) = a.x + near (((sgA p.segs i).to.x - a.x) * d) (sgA p.segs i).len) /\
    (MM [I (IntKind.i64.wrap ((sgA p.segs i).to.y - a.y)), I d, I (sgA p.segs i).len, I 2] = some [I (near (((sgA p.segs i).to.y - a.y) * d) (sgA p.segs i).len), B true] /\ IntKind.i64.wrap (a.y + near (((sgA p.segs i).to.y - a.y) * d) (sgA p.segs i).len) = a.y + near (((sgA p.segs i).to.y - a.y) * d) (sgA p.segs i).len) /\
    (MM [I (IntKind.i64.wrap ((sgA p.segs i).to.z - a.z)), I d, I (sgA p.segs i).len, I 2] = some [I (near (((sgA p.segs i).to.z - a.z) * d) (sgA p.segs i).len), B true] /\ IntKind.i64.wrap (a.z + near (((sgA p.segs i).to.z - a.z) * d) (sgA p.segs i).len) = a.z + near (((sgA p.segs i).to.z - a.z) * d) (sgA p.segs i).len) := by
   intro a ha
   have key : ∀ u v : Int, u.natAbs <= B26 -> v.natAbs <= B26 -> MM [I (IntKind.i64.wrap (u - v)), I d, I (sgA p.segs i).len, I 2] = some [I (near ((u - v) * d) (sgA p.segs i).len), B true] /\ IntKind.i64.wrap (v + near ((u - v) * d) (sgA p.segs i).len) = v + near ((u - v) * d) (sgA p.segs i).len := by
    intro u v hu hv
    have h1 := sub_nat hu hv
    rw [wrap_nat h1 (by decide)]
    refine ⟨hM (Nat.le_trans h1 (by decide)) hdn (by omega), ?_⟩
    exact wrap_nat (add_nat hv (mid_bd2 (by omega) (Nat.le_trans h1 (by decide)) ⟨f2, f3⟩)) (by decide)
   exact ⟨key _ _ hg.2.2.1 ha.1, key _ _ hg.2.2.2.1 ha.2.1, key _ _ hg.2.2.2.2 ha.2.2⟩
  have hin : (0 : Int) <= (i : Int) /\ (i : Int) < (p.segs.length : Int) := by omega
  simp only [hF, go_sem, List.length_map, Int.toNat_natCast, hr, if_pos hin]
  rw [if_neg (by omega)]
  by_cases c0 : i = 0
  ·subst c0
   obtain ⟨⟨m1, w1⟩, ⟨m2, w2⟩, m3, w3⟩ := fin h.start
   rw [if_neg (by omega), vert_zero]
   simp only [m1, m2, m3, go_sem, w1, w2, w3]
   rfl
  ·obtain ⟨j, rfl⟩ : ∃ j, i = j + 1 := ⟨i - 1, by omega⟩
   have hj := row_sgA (l := p.segs) (i := j) (by omega)
   have hgj := hok.seg _ (sgA_mem (l := p.segs) (i := j) (by omega))
   obtain ⟨⟨m1, w1⟩, ⟨m2, w2⟩, m3, w3⟩ := fin hgj.2.2
   rw [if_pos (by omega), vert_succ (by omega)]
   have e1 : IntKind.i64.wrap (((j + 1 : Nat) : Int) - 1) = (j : Int) := by rw [Qab (by omega)]; omega
   rw [e1]
   simp only [Int.toNat_natCast, hj, go_sem]
   rw [if_pos (by omega)]
   simp only [m1, m2, m3, go_sem, w1, w2, w3]
   rfl
theorem s_MulDivA {a b c : Int} (ha : a.natAbs <= 134217728) (hb : b.natAbs <= 268435456) (hc : 0 < c /\ c <= 268435456) : Qb6 [I a, I b, I c, I 2] = some [I (near (a * b) c), B true] := by
 have := Nat.mul_le_mul ha hb
 exact s_wide_MulDiv (by unfold i64; omega) (by unfold i64; omega) (by omega) (by omega)
theorem s_path_At {p : Pth} (h : GoodPath p) {s : Int} (hs : i64 s) : m_path_At (pthR p ++ [I s]) = some (ptR (atP p s)) :=
 a_path_At h (s_path_Find h.ok hs) s_MulDivA
end Go.Bm
/- the program builds the reference's path, and what is settled of it -/
set_option maxRecDepth 100000
namespace Go.Bm
open Classical

theorem s_path_RateM {it : Itm} {speed : Int} (hf : it.kind = 1 \/ 1 <= it.feed /\ it.feed <= 60000000) (hs : 0 <= speed /\ speed <= 30000) : Qjs (itmR it ++ [I speed]) = some [I (rate it speed)] := by
 by_cases h1 : it.kind = 1
 ·unfold Qjs rate
  generalize Qb6 = M
  have h := mf_path_Rate_eq (Qam := M) it.kind it.block it.fr.x it.fr.y it.fr.z it.to.x it.to.y it.to.z it.plane it.ce.x it.ce.y it.ce.z it.dir it.full it.feed it.perRev it.side it.radius it.blend it.n it.speed it.on speed
  rw [if_pos h1]
  refine Eq.trans h ?_
  rw [Qob (by simp [h1])]
 ·exact s_path_Rate (by omega) hs
theorem s_path_add {segs : List Sgm} {marks : List (List AC)} {q g st at_ : Pt} {gl item feed lead len sp mid : Int} (hat : endOf st segs = at_) (h1 : bd 67108864 at_) (h2 : bd 67108864 q) (hs : segs.length + 1 <= 1048577) (hlen : 0 <= len /\ len <= 4000000000000000000) :
  Qer [.view kSgm (segs.map sgmR), .view kMrk marks, I q.x, I q.y, I q.z, I g.x, I g.y, I g.z, I gl, I item, I feed, I lead, I st.x, I st.y, I st.z, B true, I len, I sp, I mid] =
   some [.view kSgm ((Qfv item feed lead (segs, len, at_) q).1.map sgmR), .view kMrk marks, I st.x, I st.y, I st.z, B true, I (Qfv item feed lead (segs, len, at_) q).2.1, I sp, I mid] :=
 a_path_add hat (s_curve_Length h1 h2) (len_bd h1 h2) hs hlen
theorem step_18 {items : List Itm} (hlen : items.length <= 15) (hright : ∀ j < items.length, ¬ Qgo (itA items j)) {i : Nat} (hi : i < items.length) :
  Qhv Qcr Qc8 Qdz Qet Qbm Qga Qla (pbR items i) = some (0, pbR items (i + 1)) := by
 have hb := buildN_ok hright i (by omega)
 have hin := buildN_inv hright i (by omega)
 have hall : ∀ k < items.length, motI (itA items k) -> drawn (itA items k) := fun k hk hm => (right_mot (hright k hk) hm).1
 have hrm := right_mot (hright i hi)
 refine st_build18 hi hlen hb.marks Qns (fun L hL => s_path_soft (by omega) hL) (fun L hL => s_path_next (by omega) hL) (fun hm => ?_) (s_path_mark (by omega) hi (by have := hb.marks; omega))
 have hd := (hrm hm).1
 exact a_path_move hi hlen hd.1 hb hin (points_bd hd hb.frm hall) (fun hs => by have h2 := (hrm hm).2; rcases hs with h | h <;> omega) (frm_begun items i) (s_path_smooth _) (s_path_middle hd.1.2.1 hd.1.2.2.1) (s_path_geared _) (s_path_RateM (hrm hm).2 hb.speed)
  (s_path_points (by omega) hi hd hb.frm hall) (fun h1 h2 h3 h4 h5 => s_path_add h1 h2 h3 h4 h5) a_path_add0
theorem loop_18 {items : List Itm} (hlen : items.length <= 15) (hright : ∀ j < items.length, ¬ Qgo (itA items j)) : ∀ (k i : Nat), i + k = items.length ->
  Qb1 (Qhv Qcr Qc8 Qdz Qet Qbm Qga Qla) (pbR items i) =
   some (2, [.view kSgm ((Qjq items).segs.map sgmR), .view kMrk ((Qjq items).marks.map mrkR), I (Qjq items).start.x, I (Qjq items).start.y, I (Qjq items).start.z, B (Qbi items items.length).begun, I (Qbi items items.length).len, I (Qbi items items.length).speed, I (midN items items.length)])
 | 0, i, hi => by
  obtain rfl : i = items.length := by omega
  refine Qcj ?_ (by simp)
  unfold pbR Qjq
  rw [st_path_build_18_eq, Qcl (by omega)]
 | k + 1, i, hi => by
  rw [Qb8 (step_18 hlen hright (by omega))]
  exact loop_18 hlen hright k (i + 1) (by omega)
def builtR (items : List Itm) (o : List AC) : Prop :=
 if checkP items = 0 then o = [.view kSgm ((Qjq items).segs.map sgmR), .view kMrk ((Qjq items).marks.map mrkR), I 0, I (Qjq items).start.x, I (Qjq items).start.y, I (Qjq items).start.z, B (Qbi items items.length).begun, I (Qbi items items.length).len, I (Qbi items items.length).speed, I (midN items items.length)]
 else o = [.view kSgm [], .view kMrk [], I (checkP items), I 0, I 0, I 0, B false, I 0, I 0, I 0]
theorem a_path_build {MK MV MN MS MM MC : List AC -> Option (List AC)} {N6 N18 : List AC -> Option (Nat × List AC)} {items : List Itm} (hlen : items.length <= 15)
  (h6 : (N6 [.view kSgm [], .view kMrk [], .view kItm (items.map itmR), I (-1), .view kItm (items.map itmR), I items.length, I 0, I 0, I 0, I 0, B false, I 0, I 0, I 0] = some (1, [.view kSgm [], .view kMrk [], I (checkP items), I 0, I 0, I 0, B false, I 0, I 0, I 0]) /\ checkP items ≠ 0) \/
   (N6 [.view kSgm [], .view kMrk [], .view kItm (items.map itmR), I (-1), .view kItm (items.map itmR), I items.length, I 0, I 0, I 0, I 0, B false, I 0, I 0, I 0] = some (2, [.view kSgm [], .view kMrk [], .view kItm (items.map itmR), I 0, I 0, I 0, B false, I 0, I 0, I 0]) /\ checkP items = 0))
  (h18 : checkP items = 0 -> N18 [.view kSgm [], .view kMrk [], .view kItm (items.map itmR), I (-1), .view kItm (items.map itmR), I items.length, I 0, I 0, I 0, I 0, B false, I 0, I 0, I 0] =
   some (2, [.view kSgm ((Qjq items).segs.map sgmR), .view kMrk ((Qjq items).marks.map mrkR), I (Qjq items).start.x, I (Qjq items).start.y, I (Qjq items).start.z, B (Qbi items items.length).begun, I (Qbi items items.length).len, I (Qbi items items.length).speed, I (midN items items.length)])) :
  ∃ o, mf_path_build MK MV MN MS MM MC N6 N18 [.view kItm (items.map itmR)] = some o /\ builtR items o := by
 rw [mf_path_build_eq]
 have hin : ¬ ((items.length : Int) > 20000) := by omega
 rcases h6 with ⟨h, hc⟩ | ⟨h, hc⟩
 ·simp only [go_sem, List.length_map, h, if_neg hin]
  exact ⟨_, rfl, by unfold builtR; rw [if_neg hc]⟩
 ·have g := h18 hc
  simp only [go_sem, List.length_map, h, if_neg hin, g]
  rw [if_neg (by decide), if_neg (by decide)]
  exact ⟨_, rfl, by unfold builtR; rw [if_pos hc]⟩
theorem s_path_build {items : List Itm} (hlen : items.length <= 15) : ∃ o, m_path_build [.view kItm (items.map itmR)] = some o /\ builtR items o := by
 have hc : checkP items = chkF items items.length 0 (-1) := by unfold checkP; rw [if_neg (by omega)]
 refine a_path_build hlen ?_ fun he => loop_18 hlen (check_right he).2 items.length 0 (by omega)
 rw [hc]
 exact l_path_check Qns s_path_check (by omega) items.length 0 (-1) (by omega) (.inl rfl)
theorem a_path_Build {MB : List AC -> Option (List AC)} {items : List Itm} (h : ∃ o, MB [.view kItm (items.map itmR)] = some o /\ builtR items o) :
  mf_path_Build MB [.view kItm (items.map itmR)] = if checkP items = 0 then some (pthR (Qjq items) ++ [I 0]) else some [I 0, I 0, I 0, .view kSgm [], .view kMrk [], I (checkP items)] := by
 obtain ⟨o, h1, h2⟩ := h
 rw [mf_path_Build_eq, h1]
 unfold builtR at h2
 by_cases c : checkP items = 0
 ·rw [if_pos c] at h2 ⊢
  subst h2
  simp only [go_sem]
  rw [if_neg (by simp)]
  rfl
 ·rw [if_neg c] at h2 ⊢
  subst h2
  simp only [go_sem]
  rw [if_pos c]
theorem s_path_Build {items : List Itm} (hlen : items.length <= 15) : Qmg [.view kItm (items.map itmR)] = if checkP items = 0 then some (pthR (Qjq items) ++ [I 0]) else some [I 0, I 0, I 0, .view kSgm [], .view kMrk [], I (checkP items)] :=
 a_path_Build (s_path_build hlen)
end Go.Bm
/- where the motions of a path end -/
set_option maxRecDepth 100000
namespace Go.Bm
open Classical

theorem pcsL_last {dir : Int} : ∀ (k : Nat) (full : Bool) (a b : Spk), ∃ l, pcsL dir k full a b = l ++ [b]
 | 0, _, _, b => ⟨[], rfl⟩
 | k + 1, full, a, b => by
  unfold pcsL
  split
  ·exact ⟨[], rfl⟩
  ·obtain ⟨l, hl⟩ := pcsL_last (dir := dir) k false (midS a b dir full) b
   rw [hl]
   exact ⟨pcsL dir k false a (midS a b dir full) ++ l, by rw [List.append_assoc]⟩
theorem ch_end {it : Itm} (h : Qfa it) (h3 : it.kind = 3) (p : Pt) : chPt it (endS it p) = fine p := by
 obtain ⟨hp, -, hc, -⟩ := h.2.2.2 h3
 obtain ⟨f1, f2, f3⟩ := Ql7 it.plane it.ce
 unfold chPt endS
 simp only [f1, f2]
 unfold dU dW
 have e1 : plU it.plane it.ce * 16 + (plU it.plane p - plU it.plane it.ce) * 16 = plU it.plane p * 16 := by omega
 have e2 : plW it.plane it.ce * 16 + (plW it.plane p - plW it.plane it.ce) * 16 = plW it.plane p * 16 := by omega
 rw [e1, e2]
 unfold spP plU plW plH fine
 rcases hp with hp | hp | hp <;> rw [hp] <;> rfl
theorem chords_last {it : Itm} (h : Qfa it) : ∃ l, Qdy it = l ++ [fine it.to] := by
 unfold Qdy
 by_cases h3 : it.kind = 3
 ·rw [if_pos h3]
  unfold Qez
  obtain ⟨l, hl⟩ := pcsL_last (dir := it.dir) 16 it.full (endS it it.fr) (endS it it.to)
  rw [hl]
  refine ⟨(endS it it.fr :: l).map (chPt it), ?_⟩
  rw [<- ch_end h h3, <- List.cons_append, List.map_append]
  rfl
 ·rw [if_neg h3]; exact ⟨[fine it.fr], rfl⟩
theorem points_last {items : List Itm} {i : Nat} {frm : Int} (h : Qfa (itA items i)) (hs : ¬ 0 <= Qiw items i) : ∃ l, Qdg items i frm = l ++ [fine (itA items i).to] := by
 unfold Qdg
 by_cases c : smI (itA items i)
 ·rw [if_pos c]
  unfold tailP
  rw [if_neg hs]
  unfold Qdy
  rw [if_neg (by have := c.1; omega)]
  exact ⟨_, rfl⟩
 ·rw [if_neg c]; exact chords_last h
theorem fold_last {item feed lead : Int} (l : List Pt) (q : Pt) (s : List Sgm × Int × Pt) : ((l ++ [q]).foldl (Qfv item feed lead) s).2.2 = q := by
 rw [List.foldl_append, List.foldl_cons, List.foldl_nil]
 generalize l.foldl (Qfv item feed lead) s = t
 unfold Qfv
 split
 ·rename_i c; exact c.symm
 ·rfl
end Go.Bm
/- what is settled of a path -/
set_option maxRecDepth 100000
namespace Go.Bm
open Classical

theorem sum_len {items : List Itm} (hright : ∀ j < items.length, ¬ Qgo (itA items j)) : Qfo (Qjq items).segs = (Qbi items items.length).len := by
 have h := buildN_inv hright items.length (Nat.le_refl _)
 unfold Qjq
 by_cases hb : (Qbi items items.length).begun = true
 ·exact (h.begun hb).2.2.2
 ·obtain ⟨g1, g2, -⟩ := h.empty (by simpa using hb)
  simp only [g1, g2]
  rfl
end Go.Bm
/- positions of a path in the reference; the path of the law's maker -/
set_option maxRecDepth 100000
namespace Go.Bm
open Classical

theorem l_ref_Length {l : List Sgm} (h : SegOK l) : ∀ (k i : Nat) (v : Int), i + k = l.length -> 0 <= v -> v + k * 268435456 <= 4000000000000000000 ->
  Qb1 Qgr [I v, .view kSgm (l.map sgmR), I l.length, I i] = some (1, [I (v + Qfo (l.drop i))])
 | 0, i, v, hi, _, _ => by
  refine Qcj ?_ (by simp)
  rw [Qok, Qcl (by omega), List.drop_of_length_le (by omega)]
  simp [Qfo]
 | k + 1, i, v, hi, h0, h1 => by
  have hlt : i < l.length := by omega
  have hcn := h.count
  have hg := h.seg _ (sgA_mem hlt)
  have hst : Qgr [I v, .view kSgm (l.map sgmR), I l.length, I i] = some (0, [I (v + (sgA l i).len), .view kSgm (l.map sgmR), I l.length, I (i + 1 : Nat)]) := by
   rw [Qok]
   simp only [go_sem, List.length_map, Int.toNat_natCast, row_sgA hlt]
   rw [if_pos (by omega), if_pos (by omega), Qab (x := v + _) (by omega), Qab (by omega)]
   rfl
  rw [Qb8 hst, l_ref_Length h k (i + 1) _ (by omega) (by omega) (by omega)]
  have e : l.drop i = sgA l i :: l.drop (i + 1) := by rw [sgA_get hlt]; exact Qfd _ _ hlt
  rw [e]
  simp only [Qfo, Int.add_assoc]
theorem s_ref_Length {p : Pth} (h : SegOK p.segs) : Qek (pthR p) = some [I (Qfo p.segs)] := by
 have hl := l_ref_Length h p.segs.length 0 0 (by omega) (by omega) (by have := h.count; omega)
 have hl' : Qhg [I 0, .view kSgm (p.segs.map sgmR), I p.segs.length, I 0] = some (1, [I (0 + Qfo (p.segs.drop 0))]) := hl
 rw [List.drop_zero, Int.zero_add] at hl'
 unfold Qek
 generalize Qhg = N at *
 rw [mf_cncref25_Length_eq]
 simp only [go_sem, List.length_map, hl']
theorem sum_path {p : Pth} (h : GoodPath p) : 0 <= Qfo p.segs /\ Qfo p.segs <= 263886834032640 := by
 have h1 := sum_bd h.ok.seg
 have h2 := h.count
 omega
end Go.Bm
/- which paths are valid: the program and the reference agree -/
set_option maxRecDepth 100000
namespace Go.Bm
open Classical

def segOne (item : Int) (a : Pt) (g : Sgm) : Prop := bd B24 g.to /\ g.to ≠ a /\ g.len = lenP a g.to /\ item <= g.item /\ (0 <= g.feed /\ g.feed <= 16777216) /\ (0 <= g.lead /\ g.lead <= 16777216)
def segsOK (item : Int) (a : Pt) : List Sgm -> Prop
 | [] => True
 | g :: l => segOne item a g /\ segsOK g.item g.to l
def markOne (last n : Int) (m : Mrk) : Prop := last <= m.at_ /\ m.at_ <= n /\ (1 <= m.kind /\ m.kind <= 6) /\ 0 <= m.item
def marksOK (last n : Int) : List Mrk -> Prop
 | [] => True
 | m :: l => markOne last n m /\ marksOK m.at_ n l
def validP (p : Pth) : Prop := bd B24 p.start /\ segsOK 0 p.start p.segs /\ marksOK 0 (Qfo p.segs) p.marks
end Go.Bm
/- the path of items that the maker makes is valid -/
set_option maxRecDepth 100000
namespace Go.Bm
open Classical

structure okW (R : Nat) (s : Spk) : Prop where
 ok : okS s
 u : s.u.natAbs <= R
 w : s.w.natAbs <= R
 r : s.r <= R
theorem midS_okW {R : Nat} {a b : Spk} (ha : okW R a) (hb : okW R b) {dir : Int} (hd : dir = 1 \/ dir = -1) (full : Bool) : okW R (midS a b dir full) := by
 have hbd := midD_bd ha.ok hb.ok hd full
 have hr := hf_bd ha.ok.2.2.1 hb.ok.2.2.1
 have hrR : hf a.r b.r <= R := by have := ha.r; have := hb.r; unfold hf; omega
 refine ⟨midS_ok ha.ok hb.ok hd full, ?_, ?_, ?_⟩
 all_goals
  unfold midS midOf
  split
  ·simp
  ·rename_i h
   obtain ⟨⟨-, n1⟩, -, n2⟩ := near_S hbd.1 hbd.2 hr h
   simp only
   omega
theorem pcsL_okW {R : Nat} {dir : Int} (hd : dir = 1 \/ dir = -1) : ∀ (k : Nat) (full : Bool) {a b : Spk}, okW R a -> okW R b -> ∀ s ∈ pcsL dir k full a b, okW R s
 | 0, _, a, b, _, hb, s, hs => by simp [pcsL] at hs; subst hs; exact hb
 | k + 1, full, a, b, ha, hb, s, hs => by
  unfold pcsL at hs
  have hm := midS_okW ha hb hd full
  split at hs
  ·simp at hs; subst hs; exact hb
  ·rcases List.mem_append.1 hs with hs | hs
   ·exact pcsL_okW hd k false ha hm s hs
   ·exact pcsL_okW hd k false hm hb s hs
theorem endS_okW {it : Itm} {p : Pt} {c : Nat} (hce : bd 1048576 it.ce) (hp : bd 1048576 p) (h1 : (dU it p).natAbs <= c) (h2 : (dW it p).natAbs <= c) : okW (32 * c + 1) (endS it p) := by
 obtain ⟨g1, g2, g3, g4⟩ := endS_sq hce hp
 refine ⟨endS_ok hce hp, ?_, ?_, ?_⟩
 ·show (dU it p * 16).natAbs <= _; omega
 ·show (dW it p * 16).natAbs <= _; omega
 ·show midR _ <= _
  obtain ⟨n, hn⟩ := Int.eq_ofNat_of_zero_le g3
  have hle : n <= (32 * c) * (32 * c) := by
   have k1 := Qlo (x := dU it p * 16) (A := 16 * c) (by omega)
   have k2 := Qlo (x := dW it p * 16) (A := 16 * c) (by omega)
   have e : (32 * c) * (32 * c) = 4 * (16 * c * (16 * c)) := by grind
   unfold sq2 at hn
   generalize 16 * c * (16 * c) = m at *
   omega
  rw [hn] at g4 ⊢
  obtain ⟨r, -, r2, r3, -⟩ := Qjo (n := n) (by omega)
  rw [midR_of (isMid_nat r2 r3)]
  have : r <= 32 * c := Nat.mul_self_le_mul_self_iff.1 (Nat.le_trans r2 hle)
  split <;> omega
theorem chords_near {it : Itm} (h : Made it) (h1 : bd 40004 it.fr) (h2 : bd 40004 it.to) : ∀ p ∈ Qdy it, bd 1000000 p := by
 have hv := made_valid h (Qau h1 (by omega)) (Qau h2 (by omega))
 intro p hp
 unfold Qdy at hp
 by_cases h3 : it.kind = 3
 ·rw [if_pos h3] at hp
  obtain ⟨hpl, hd, hc, -⟩ := hv.2.2.2 h3
  have ha := h.arc h3
  obtain ⟨-, hce⟩ := arc_bd ha (by omega) h1
  obtain ⟨r, k, t, g, x, e1, e2, e3, e4, e5, e6, e7, e8, e9, e10, e11, e12, e13⟩ := ha.ends
  obtain ⟨⟨r1, r2⟩, r3, r4⟩ := rot_bd (r := r) (k := k) (by omega)
  obtain ⟨⟨r5, r6⟩, r7, r8⟩ := rot_bd (r := r + g) (k := k + t) (by omega)
  have a1 : (dU it it.fr).natAbs <= 20 /\ (dW it it.fr).natAbs <= 20 := by unfold dU dW; rw [e12, (pl_sp hpl).1, (pl_sp hpl).2.1]; omega
  have a2 : (dU it it.to).natAbs <= 20 /\ (dW it it.to).natAbs <= 20 := by unfold dU dW; rw [e12, e13, (pl_sp hpl).1, (pl_sp hpl).1, (pl_sp hpl).2.1, (pl_sp hpl).2.1]; omega
  have k1 := endS_okW hc hv.2.1 a1.1 a1.2
  have k2 := endS_okW hc hv.2.2.1 a2.1 a2.2
  simp only [List.mem_map] at hp
  obtain ⟨s, hs, rfl⟩ := hp
  -- the heights lie between those of the ends
  have hh : ∀ s ∈ Qez it, s.h.natAbs <= 640064 := by
   have key : ∀ (k : Nat) (full : Bool) (a b : Spk), a.h.natAbs <= 640064 -> b.h.natAbs <= 640064 -> ∀ s ∈ pcsL it.dir k full a b, s.h.natAbs <= 640064 := by
    intro k
    induction k with
    | zero => intro full a b ha hb s hs; simp [pcsL] at hs; subst hs; exact hb
    | succ k ih =>
     intro full a b ha hb s hs
     have hm : (midS a b it.dir full).h.natAbs <= 640064 := by
      unfold midS midOf
      split
      ·simp
      ·show (hf a.h b.h).natAbs <= _
       unfold hf; omega
     unfold pcsL at hs
     split at hs
     ·simp at hs; subst hs; exact hb
     ·rcases List.mem_append.1 hs with hs | hs
      ·exact ih false _ _ ha hm s hs
      ·exact ih false _ _ hm hb s hs
   have f1 := (pl_bd (pl := it.plane) h1).2.2
   have f2 := (pl_bd (pl := it.plane) h2).2.2
   have b1 : (endS it it.fr).h.natAbs <= 640064 := by show (plH it.plane it.fr * 16).natAbs <= _; omega
   have b2 : (endS it it.to).h.natAbs <= 640064 := by show (plH it.plane it.to * 16).natAbs <= _; omega
   intro s hs
   rcases List.mem_cons.1 hs with rfl | hs
   ·exact b1
   ·exact key 16 _ _ _ b1 b2 s hs
  have hs1 : okW (32 * 20 + 1) s := by
   rcases List.mem_cons.1 hs with rfl | hs
   ·exact k1
   ·exact pcsL_okW hd 16 _ k1 k2 s hs
  have hs2 := hh s hs
  obtain ⟨c1, c2, -⟩ := pl_bd (pl := it.plane) (Qg6 hce)
  have u1 := hs1.u
  have u2 := hs1.w
  have : (8 : Int).toNat = 8 := rfl
  unfold chPt
  exact sp_bd (by omega) (by omega) (by omega)
 ·rw [if_neg h3] at hp
  simp at hp
  rcases hp with rfl | rfl
  ·exact Qau (Qg6 h1) (by decide)
  ·exact Qau (Qg6 h2) (by decide)
theorem points_24 {items : List Itm} {i : Nat} {frm : Int} (hi : i < items.length) (hm : motI (itA items i)) (hmade : ∀ it ∈ items, (motI it /\ Made it /\ blank it /\ bd 40004 it.fr /\ bd 40004 it.to) \/ Oth it) (hf : frmOK items i frm) (hall : ∀ k < items.length, motI (itA items k) -> drawn (itA items k)) :
  ∀ p ∈ Qdg items i frm, bd B24 p := by
 have hmk := hmade _ (itA_mem hi)
 have hd := hall i hi hm
 have hch : ∀ p ∈ Qdy (itA items i), bd B24 p := by
  rcases hmk with ⟨-, g1, -, g2, g3⟩ | g
  ·exact fun p hp => Qau (chords_near g1 g2 g3 p hp) (by decide)
  ·exact absurd hm (oth_mot g)
 intro p hp
 unfold Qdg at hp
 by_cases hs : smI (itA items i)
 ·rw [if_pos hs] at hp
  rcases List.mem_append.1 hp with hp | hp
  ·rcases List.mem_append.1 hp with hp | hp
   ·unfold headP at hp
    rcases hf with rfl | ⟨f, rfl, hf1, hf2⟩
    ·rw [if_neg (by omega)] at hp
     exact hch p (List.mem_of_mem_take hp)
    ·rw [if_pos (by omega)] at hp
     exact (joined_bd (by simpa using hf2) hd).1 p (List.mem_of_mem_drop hp)
   ·simp at hp; subst hp; exact center_bd hd.1.2.1 hd.1.2.2.1
  ·unfold tailP at hp
   by_cases h : 0 <= Qiw items i
   ·rw [if_pos h] at hp
    obtain ⟨k, hk, hk1, hk2⟩ := soft_get hall h
    rw [hk] at hp
    exact (joined_bd hd (by simpa using hk2)).1 p (List.mem_of_mem_take hp)
   ·rw [if_neg h] at hp
    exact hch p (List.mem_of_mem_drop hp)
 ·rw [if_neg hs] at hp
  exact hch p hp

def lastIt : Int -> List Sgm -> Int
 | k, [] => k
 | _, g :: l => lastIt g.item l
theorem segsOK_snoc {g : Sgm} : ∀ {l : List Sgm} {item : Int} {a : Pt}, segsOK item a l -> segOne (lastIt item l) (endOf a l) g -> segsOK item a (l ++ [g])
 | [], _, _, _, h => ⟨h, trivial⟩
 | _ :: _, _, _, h1, h => ⟨h1.1, segsOK_snoc h1.2 h⟩
theorem lastIt_snoc {g : Sgm} : ∀ {l : List Sgm} {item : Int}, lastIt item (l ++ [g]) = g.item
 | [], _ => rfl
 | _ :: l, _ => lastIt_snoc (l := l)
theorem fold_segs {start : Pt} {item feed lead : Int} (hf : 0 <= feed /\ feed <= 16777216) (hl : 0 <= lead /\ lead <= 16777216) : ∀ (pts : List Pt) (s : List Sgm × Int × Pt), (∀ p ∈ pts, bd B24 p) -> segsOK 0 start s.1 -> endOf start s.1 = s.2.2 -> lastIt 0 s.1 <= item ->
  segsOK 0 start (pts.foldl (Qfv item feed lead) s).1 /\ lastIt 0 (pts.foldl (Qfv item feed lead) s).1 <= item
 | [], s, _, h, _, h2 => ⟨h, h2⟩
 | q :: pts, s, hp, h, h1, h2 => by
  rw [List.foldl_cons]
  have hq := hp q (by simp)
  unfold Qfv
  by_cases c : q = s.2.2
  ·rw [if_pos c]
   exact fold_segs hf hl pts s (fun p hp' => hp p (by simp [hp'])) h h1 h2
  ·rw [if_neg c]
   refine fold_segs hf hl pts _ (fun p hp' => hp p (by simp [hp'])) ?_ (endOf_snoc _ _ _) (by simp only [lastIt_snoc]; omega)
   exact segsOK_snoc h ⟨hq, by rw [h1]; exact c, by rw [h1], h2, hf, hl⟩
def lastAt : Int -> List Mrk -> Int
 | k, [] => k
 | _, m :: l => lastAt m.at_ l
theorem marksOK_snoc {m : Mrk} {n n' : Int} (hn : n <= n') : ∀ {l : List Mrk} {last : Int}, marksOK last n l -> markOne (lastAt last l) n' m -> marksOK last n' (l ++ [m])
 | [], _, _, h => ⟨h, trivial⟩
 | k :: l, _, ⟨⟨h1, h2, h3, h4⟩, h5⟩, h => ⟨⟨h1, by omega, h3, h4⟩, marksOK_snoc hn h5 h⟩
theorem lastAt_le {n : Int} : ∀ {l : List Mrk} {last : Int}, last <= n -> marksOK last n l -> lastAt last l <= n
 | [], _, h, _ => h
 | m :: l, _, _, ⟨h1, h2⟩ => lastAt_le (l := l) h1.2.1 h2
theorem near_pos_bd {a : Int} (h : 0 <= a /\ a <= 60000000) : 0 <= near (a * 4096) 60000 /\ near (a * 4096) 60000 <= 4096001 := by
 unfold near
 omega
theorem rate_ok {it : Itm} {speed : Int} (hf : it.kind = 1 \/ 1 <= it.feed /\ it.feed <= 60000000) (hs : 0 <= speed /\ speed <= 30000) : 0 <= rate it speed /\ rate it speed <= 16777216 := by
 unfold rate
 by_cases h1 : it.kind = 1
 ·rw [if_pos h1]; omega
 ·rw [if_neg h1]
  have hf2 : 0 <= it.feed /\ it.feed <= 60000000 := by omega
  have key : ∀ f : Int, 0 <= f -> 0 <= mx (near (mn f 60000000 * 4096) 60000) 1 /\ mx (near (mn f 60000000 * 4096) 60000) 1 <= 16777216 := by
   intro f hf
   have h := near_pos_bd (mn_bd hf)
   unfold mx
   split <;> omega
  split
  ·exact key _ (feed_bd hf2 hs).1
  ·exact key _ hf2.1
theorem lead_ok {it : Itm} (hf : syI it -> 0 <= it.feed /\ it.feed <= 60000000) : 0 <= leadI it /\ leadI it <= 16777216 := by
 unfold leadI
 split
 ·rename_i h
  have := hf h
  unfold mn; split <;> omega
 ·omega
structure VInv (i : Nat) (s : BSt) : Prop where
 begun : s.begun = true -> bd B24 s.start /\ segsOK 0 s.start s.segs /\ lastIt 0 s.segs <= i
 marks : marksOK 0 s.len s.marks
theorem kindK_ok (items : List Itm) (i : Nat) : 1 <= kindK items i /\ kindK items i <= 6 := by
 have hns : ∀ l : List Itm, nextSy l = 1 \/ nextSy l = 2 := by
  intro l
  induction l with
  | nil => right; rfl
  | cons it l ih =>
   unfold nextSy
   split
   ·split <;> simp
   ·exact ih
 unfold kindK
 rcases hns (items.drop (i + 1)) with h | h <;> rw [h] <;> split <;> (try split) <;> (try split) <;> omega
theorem otherK_ok (it : Itm) : 1 <= otherK it /\ otherK it <= 6 := by unfold otherK; split <;> (try split) <;> omega
theorem bStep_v {items : List Itm} {i : Nat} {s : BSt} (hi : i < items.length) (hright : ∀ j < items.length, ¬ Qgo (itA items j)) (hpts : motI (itA items i) -> ∀ p ∈ Qdg items i s.frm, bd B24 p) (hok : BOK items i s) (hin : BInv s) (h : VInv i s) : VInv (i + 1) (bStep items i s) := by
 have hall : ∀ k < items.length, motI (itA items k) -> drawn (itA items k) := fun k hk hm => (right_mot (hright k hk) hm).1
 unfold bStep
 by_cases hm : motI (itA items i)
 ·rw [if_pos hm]
  have hrm := right_mot (hright i hi) hm
  have hd := hrm.1
  have hr := rate_ok hrm.2 hok.speed
  have hl := lead_ok (it := itA items i) fun hs => by rcases hs with h | h <;> have := hrm.2 <;> omega
  have hpt := hpts hm
  obtain ⟨p1, p2⟩ := points_bd hd hok.frm hall
  have ha : bd 67108864 (if s.begun = true then s.at_ else fine (itA items i).fr) := by
   by_cases hb : s.begun = true
   ·rw [if_pos hb]; exact hok.at_ hb
   ·rw [if_neg hb]; exact Qau (Qg6 hd.1.2.1) (by decide)
  obtain ⟨-, a2, -, -⟩ := fold_bd (item := i) (feed := rate (itA items i) s.speed) (lead := leadI (itA items i)) (Qdg items i s.frm) (s.segs, s.len, if s.begun = true then s.at_ else fine (itA items i).fr) p1 ha hok.len.1
  refine ⟨fun _ => ?_, ?_⟩
  ·unfold motS
   by_cases hb : s.begun = true
   ·rw [if_pos hb, if_pos hb]
    obtain ⟨g1, g2, g3⟩ := h.begun hb
    obtain ⟨k1, k2⟩ := fold_segs (start := s.start) (item := i) hr hl (Qdg items i s.frm) (s.segs, s.len, s.at_) hpt g2 (hin.begun hb).2.2.1 g3
    exact ⟨g1, k1, by simp only; omega⟩
   ·rw [if_neg hb, if_neg hb]
    obtain ⟨g1, g2, g3⟩ := hin.empty (by simpa using hb)
    rw [g1]
    obtain ⟨k1, k2⟩ := fold_segs (start := fine (itA items i).fr) (item := i) hr hl (Qdg items i s.frm) ([], s.len, fine (itA items i).fr) hpt trivial rfl (by simp only [lastIt]; omega)
    exact ⟨Qau (Qg6 hd.1.2.1) (by decide), k1, by simp only; omega⟩
  ·have hla := lastAt_le hok.len.1 h.marks
   have hk := kindK_ok items i
   have : s.len <= (motS items i s).2.1 := a2
   exact marksOK_snoc this h.marks ⟨by simp only; omega, by simp only; omega, hk, by simp only; omega⟩
 ·rw [if_neg hm]
  refine ⟨fun hb => ?_, ?_⟩
  ·obtain ⟨g1, g2, g3⟩ := h.begun hb
   exact ⟨g1, g2, by simp only; omega⟩
  ·have hla := lastAt_le hok.len.1 h.marks
   have hk := otherK_ok (itA items i)
   exact marksOK_snoc (Int.le_refl _) h.marks ⟨by simp only; omega, by simp only; omega, hk, by simp only; omega⟩
theorem items_right {p : Pt} {items : List Itm} (h : Items 40004 p items) (hl : items.length <= 15) : ∀ j < items.length, ¬ Qgo (itA items j) := (check_right (items_check (by omega) h (by omega))).2
theorem buildN_v {p : Pt} {items : List Itm} (h : Items 40004 p items) (hl : items.length <= 15) : ∀ i, i <= items.length -> VInv i (Qbi items i)
 | 0, _ => by rw [Qbi]; exact ⟨fun h => (by cases h), trivial⟩
 | i + 1, hi => by
  have hright := items_right h hl
  have hok := buildN_ok hright i (by omega)
  rw [Qbi]
  exact bStep_v (by omega) hright (fun hm => points_24 (by omega) hm h.made hok.frm fun k hk hm => (right_mot (hright k hk) hm).1) hok (buildN_inv hright i (by omega)) (buildN_v h hl i (by omega))
theorem path_valid {p : Pt} {items : List Itm} (h : Items 40004 p items) (hl : items.length <= 15) : validP (Qjq items) := by
 have hright := items_right h hl
 have hv := buildN_v h hl items.length (Nat.le_refl _)
 have hin := buildN_inv hright items.length (Nat.le_refl _)
 have hs := sum_len hright
 unfold validP
 rw [hs]
 unfold Qjq
 by_cases hb : (Qbi items items.length).begun = true
 ·obtain ⟨g1, g2, -⟩ := hv.begun hb
  exact ⟨g1, g2, hv.marks⟩
 ·obtain ⟨g1, g2, g3⟩ := hin.empty (by simpa using hb)
  refine ⟨?_, ?_, hv.marks⟩
  ·simp only [g3]; unfold bd; simp
  ·simp only [g1]; trivial
theorem items_mono {A A' : Nat} {p : Pt} {l : List Itm} (h : Items A p l) (hA : A <= A') : Items A' p l :=
 ⟨h.link, fun it hi => (h.made it hi).imp (fun ⟨h1, h2, h3, h4, h5⟩ => ⟨h1, h2, h3, Qau h4 hA, Qau h5 hA⟩) id⟩
end Go.Bm
