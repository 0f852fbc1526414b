/- laid together -/
import Derived.Test.YtdllaekpkcanbaaPrPh
import Derived.Test.YtdllaekpkcanbaaPrV
import Derived.Test.YtdllaekpkcanbaaMx5
import Derived.Test.YtdllaekpkcanbaaPrCw
import Derived.Test.YtdllaekpkcanbaaPrPf
set_option linter.unusedVariables false
set_option linter.unusedSimpArgs false
/- where the motions of a path end -/
set_option maxRecDepth 100000
namespace Go.Bm
open Classical

theorem pcsL_last {dir : Int} : ∀ (k : Nat) (full : Bool) (a b : Spk), ∃ l, pcsL dir k full a b = l ++ [b]
 | 0, _, _, b => ⟨[], rfl⟩
 | k + 1, full, a, b => by
  unfold pcsL
  split
  ·exact ⟨[], rfl⟩
  ·obtain ⟨l, hl⟩ := pcsL_last (dir := dir) k false (midS a b dir full) b
   rw [hl]
   exact ⟨pcsL dir k false a (midS a b dir full) ++ l, by rw [List.append_assoc]⟩
theorem ch_end {it : Itm} (h : validI it) (h3 : it.kind = 3) (p : Pt) : chPt it (endS it p) = fine p := by
 obtain ⟨hp, -, hc, -⟩ := h.2.2.2 h3
 obtain ⟨f1, f2, f3⟩ := pl_fine it.plane it.ce
 unfold chPt endS
 simp only [f1, f2]
 unfold dU dW
 have e1 : plU it.plane it.ce * 16 + (plU it.plane p - plU it.plane it.ce) * 16 = plU it.plane p * 16 := by omega
 have e2 : plW it.plane it.ce * 16 + (plW it.plane p - plW it.plane it.ce) * 16 = plW it.plane p * 16 := by omega
 rw [e1, e2]
 unfold spP plU plW plH fine
 rcases hp with hp | hp | hp <;> rw [hp] <;> rfl
theorem chords_last {it : Itm} (h : validI it) : ∃ l, chordsP it = l ++ [fine it.to] := by
 unfold chordsP
 by_cases h3 : it.kind = 3
 ·rw [if_pos h3]
  unfold spokesP
  obtain ⟨l, hl⟩ := pcsL_last (dir := it.dir) 16 it.full (endS it it.fr) (endS it it.to)
  rw [hl]
  refine ⟨(endS it it.fr :: l).map (chPt it), ?_⟩
  rw [<- ch_end h h3, <- List.cons_append, List.map_append]
  rfl
 ·rw [if_neg h3]; exact ⟨[fine it.fr], rfl⟩
theorem points_last {items : List Itm} {i : Nat} {frm : Int} (h : validI (itA items i)) (hs : ¬ 0 <= softK items i) : ∃ l, pointsP items i frm = l ++ [fine (itA items i).to] := by
 unfold pointsP
 by_cases c : smI (itA items i)
 ·rw [if_pos c]
  unfold tailP
  rw [if_neg hs]
  unfold chordsP
  rw [if_neg (by have := c.1; omega)]
  exact ⟨_, rfl⟩
 ·rw [if_neg c]; exact chords_last h
theorem fold_last {item feed lead : Int} (l : List Pt) (q : Pt) (s : List Sgm × Int × Pt) : ((l ++ [q]).foldl (addPt item feed lead) s).2.2 = q := by
 rw [List.foldl_append, List.foldl_cons, List.foldl_nil]
 generalize l.foldl (addPt item feed lead) s = t
 unfold addPt
 split
 ·rename_i c; exact c.symm
 ·rfl
theorem fold_pre {item feed lead : Int} : ∀ (pts : List Pt) (s : List Sgm × Int × Pt), ∃ l, (pts.foldl (addPt item feed lead) s).1 = s.1 ++ l
 | [], s => ⟨[], by simp⟩
 | q :: pts, s => by
  rw [List.foldl_cons]
  obtain ⟨l, hl⟩ := fold_pre (item := item) (feed := feed) (lead := lead) pts (addPt item feed lead s q)
  rw [hl]
  unfold addPt
  split
  ·exact ⟨l, rfl⟩
  ·exact ⟨_ :: l, (List.append_assoc _ _ _).trans rfl⟩
theorem step_pre (items : List Itm) (i : Nat) (s : BSt) : ∃ l, (bStep items i s).segs = s.segs ++ l := by
 unfold bStep
 split
 ·exact fold_pre _ _
 ·exact ⟨[], by simp⟩
theorem build_pre (items : List Itm) (i : Nat) : ∀ k, ∃ l, (buildN items (i + k)).segs = (buildN items i).segs ++ l
 | 0 => ⟨[], by simp⟩
 | k + 1 => by
  obtain ⟨l, hl⟩ := build_pre items i k
  obtain ⟨m, hm⟩ := step_pre items (i + k) (buildN items (i + k))
  refine ⟨l ++ m, ?_⟩
  show (bStep items (i + k) (buildN items (i + k))).segs = _
  rw [hm, hl, List.append_assoc]
theorem begun_step {items : List Itm} {i : Nat} {s : BSt} (h : s.begun = true) : (bStep items i s).begun = true /\ (bStep items i s).start = s.start := by
 unfold bStep
 split
 ·exact ⟨rfl, by simp [h]⟩
 ·exact ⟨h, rfl⟩
theorem begun_steps {items : List Itm} {i : Nat} (h : (buildN items i).begun = true) : ∀ k, (buildN items (i + k)).begun = true /\ (buildN items (i + k)).start = (buildN items i).start
 | 0 => ⟨h, rfl⟩
 | k + 1 => by
  obtain ⟨h1, h2⟩ := begun_steps h k
  obtain ⟨h3, h4⟩ := begun_step (items := items) (i := i + k) h1
  exact ⟨h3, h4.trans h2⟩
theorem mot_begun {items : List Itm} {i : Nat} (hm : motI (itA items i)) : (buildN items (i + 1)).begun = true := by
 rw [buildN]; unfold bStep; rw [if_pos hm]
theorem first_start {items : List Itm} (hm : motI (itA items 0)) : (buildN items 1).start = fine (itA items 0).fr := by
 rw [buildN]; unfold bStep; rw [if_pos hm]; rfl
theorem mot_end {items : List Itm} {i : Nat} (hi : i < items.length) (hright : ∀ j < items.length, ¬ wrongI (itA items j)) (hm : motI (itA items i)) (hs : ¬ 0 <= softK items i) :
  endOf (buildN items (i + 1)).start (buildN items (i + 1)).segs = fine (itA items i).to := by
 have hin := buildN_inv hright (i + 1) (by omega)
 have hb := mot_begun hm
 have h1 := (hin.begun hb).2.2.1
 rw [h1]
 rw [buildN]
 unfold bStep
 rw [if_pos hm]
 show (motS items i (buildN items i)).2.2 = _
 unfold motS
 obtain ⟨l, hl⟩ := points_last (frm := (buildN items i).frm) (right_mot (hright i hi) hm).1.1 hs
 rw [hl]
 exact fold_last _ _ _
theorem sum_nn {l : List Sgm} (h : ∀ g ∈ l, 1 <= g.len) : 0 <= sumLen l := by
 induction l with
 | nil => simp [sumLen]
 | cons k l ih =>
  have := ih fun g hg => h g (by simp [hg])
  have := h k (by simp)
  simp only [sumLen]; omega
theorem sum_app (l m : List Sgm) : sumLen (l ++ m) = sumLen l + sumLen m := by
 induction l with
 | nil => simp [sumLen]
 | cons k l ih => simp only [List.cons_append, sumLen, ih]; omega
theorem atL_app {l m : List Sgm} : ∀ {a : Pt} {s : Int}, (∀ g ∈ l, 1 <= g.len) -> 0 <= s -> atL a (l ++ m) s = if s < sumLen l then atL a l s else atL (endOf a l) m (s - sumLen l) := by
 induction l with
 | nil =>
  intro a s _ hs
  have e : sumLen ([] : List Sgm) = 0 := rfl
  rw [e, if_neg (by omega), Int.sub_zero]
  rfl
 | cons g l ih =>
  intro a s h hs
  have hg := h g (by simp)
  have hl := sum_nn fun k hk => h k (List.mem_cons_of_mem _ hk)
  have e1 : sumLen (g :: l) = g.len + sumLen l := rfl
  have e2 : endOf a (g :: l) = endOf g.to l := rfl
  have e3 : ∀ k, atL a (g :: k) s = if s < g.len then midP a g s else atL g.to k (s - g.len) := fun _ => rfl
  rw [e1, e2, List.cons_append, e3, e3]
  by_cases c : s < g.len
  ·rw [if_pos c, if_pos (by omega), if_pos c]
  ·rw [if_neg c, if_neg c, ih (fun k hk => h k (List.mem_cons_of_mem _ hk)) (by omega)]
   by_cases c2 : s - g.len < sumLen l
   ·rw [if_pos c2, if_pos (by omega)]
   ·rw [if_neg c2, if_neg (by omega), show s - g.len - sumLen l = s - (g.len + sumLen l) by omega]
theorem at_cut {a : Pt} {l m : List Sgm} (h : ∀ g ∈ l ++ m, 1 <= g.len) : atL a (l ++ m) (sumLen l) = endOf a l := by
 have hl : ∀ g ∈ l, 1 <= g.len := fun g hg => h g (by simp [hg])
 rw [atL_app hl (sum_nn hl), if_neg (by omega), Int.sub_self]
 exact atL_zero fun g hg => h g (by simp [hg])
end Go.Bm
/- what is settled of a path -/
set_option maxRecDepth 100000
namespace Go.Bm
open Classical

def lastNO (items : List Itm) : Nat -> Option Nat
 | 0 => none
 | i + 1 => if (itA items i).kind = 10 then lastNO items i else some i
noncomputable def settledP (items : List Itm) : Int :=
 match lastNO items items.length with
 | some i => if smI (itA items i) /\ (itA items i).blend ≠ 0 then sumLen (pathP items).segs - lenP (centerP (itA items i)) (fine (itA items i).to) else sumLen (pathP items).segs
 | none => sumLen (pathP items).segs
theorem lastNO_spec {items : List Itm} {i : Nat} : ∀ {n : Nat}, lastNO items n = some i -> i < n /\ (itA items i).kind ≠ 10 /\ ∀ j, i < j -> j < n -> (itA items j).kind = 10
 | 0, h => by cases h
 | n + 1, h => by
  unfold lastNO at h
  split at h
  ·rename_i c
   obtain ⟨h1, h2, h3⟩ := lastNO_spec h
   refine ⟨by omega, h2, fun j g1 g2 => ?_⟩
   by_cases e : j = n
   ·rw [e]; exact c
   ·exact h3 j g1 (by omega)
  ·rename_i c
   cases h
   exact ⟨by omega, c, fun j g1 g2 => by omega⟩
theorem out_step {items : List Itm} {i : Nat} (h : (itA items i).kind = 10) : (buildN items (i + 1)).len = (buildN items i).len /\ midN items (i + 1) = midN items i := by
 have hm : ¬ motI (itA items i) := fun g => by have := g.2; omega
 constructor
 ·rw [buildN]; unfold bStep; rw [if_neg hm]
 ·rw [midN, if_neg hm]
theorem out_steps {items : List Itm} {i : Nat} : ∀ (k : Nat), (∀ j, i <= j -> j < i + k -> (itA items j).kind = 10) -> (buildN items (i + k)).len = (buildN items i).len /\ midN items (i + k) = midN items i
 | 0, _ => ⟨rfl, rfl⟩
 | k + 1, h => by
  obtain ⟨h1, h2⟩ := out_steps k fun j g1 g2 => h j g1 (by omega)
  obtain ⟨h3, h4⟩ := out_step (h (i + k) (by omega) (by omega))
  exact ⟨h3.trans h1, h4.trans h2⟩
theorem sum_len {items : List Itm} (hright : ∀ j < items.length, ¬ wrongI (itA items j)) : sumLen (pathP items).segs = (buildN items items.length).len := by
 have h := buildN_inv hright items.length (Nat.le_refl _)
 unfold pathP
 by_cases hb : (buildN items items.length).begun = true
 ·exact (h.begun hb).2.2.2
 ·obtain ⟨g1, g2, -⟩ := h.empty (by simpa using hb)
  simp only [g1, g2]
  rfl
theorem center_ne {it : Itm} (h : it.fr ≠ it.to) : fine it.to ≠ centerP it := by
 intro g
 unfold fine centerP at g
 injection g with g1 g2 g3
 exact h (pt_ext.2 ⟨by omega, by omega, by omega⟩)
theorem stepM_center (it : Itm) (h : smI it) (item feed lead : Int) (s : (List Sgm × Int × Pt) × Int) :
  (stepM it item feed lead (stepM it item feed lead s (centerP it)) (fine it.to)).2 = (stepM it item feed lead (stepM it item feed lead s (centerP it)) (fine it.to)).1.2.1 - lenP (centerP it) (fine it.to) := by
 have hne := center_ne h.2
 have h1 : (stepM it item feed lead s (centerP it)).2 = (addPt item feed lead s.1 (centerP it)).2.1 := if_pos ⟨h, rfl⟩
 have h2 : (addPt item feed lead s.1 (centerP it)).2.2 = centerP it := by
  unfold addPt
  split
  ·rename_i c; exact c.symm
  ·rfl
 have h3 : (stepM it item feed lead s (centerP it)).1 = addPt item feed lead s.1 (centerP it) := rfl
 generalize stepM it item feed lead s (centerP it) = t at *
 have h4 : (stepM it item feed lead t (fine it.to)).2 = t.2 := if_neg fun g => hne g.2
 have h5 : (stepM it item feed lead t (fine it.to)).1 = addPt item feed lead t.1 (fine it.to) := rfl
 rw [h4, h5, h1, h3]
 rw [<- h2] at hne ⊢
 rw [h2]
 generalize addPt item feed lead s.1 (centerP it) = u at *
 have h6 : addPt item feed lead u (fine it.to) = (u.1 ++ [⟨fine it.to, lenP u.2.2 (fine it.to), item, feed, lead⟩], u.2.1 + lenP u.2.2 (fine it.to), fine it.to) := if_neg hne
 rw [h6, h2]
 simp only
 omega
theorem mid_set {items : List Itm} {i : Nat} (hn : lastNO items items.length = some i) (hs : smI (itA items i)) : midN items items.length = (buildN items items.length).len - lenP (centerP (itA items i)) (fine (itA items i).to) := by
 obtain ⟨h1, -, h3⟩ := lastNO_spec hn
 obtain ⟨k, hk⟩ : ∃ k, items.length = i + 1 + k := ⟨items.length - (i + 1), by omega⟩
 have hm : motI (itA items i) := ⟨by have := hs.1; omega, by have := hs.1; omega⟩
 obtain ⟨g1, g2⟩ := out_steps (items := items) (i := i + 1) k fun j e1 e2 => h3 j (by omega) (by omega)
 have hsoft : ¬ 0 <= softK items i := by
  intro c
  have hx := soft_next c
  rcases softK_spec items i with h | ⟨-, -, m, m1, m2, m3, m4, m5⟩
  ·omega
  ·have := h3 m m2 m3
   have := m4.1
   omega
 rw [hk, g1, g2]
 have e1 : midN items (i + 1) = (motM items i (buildN items i) (midN items i)).2 := if_pos hm
 have e2 : (buildN items (i + 1)).len = (motM items i (buildN items i) (midN items i)).1.2.1 := by
  rw [motM_fst, buildN]; unfold bStep; rw [if_pos hm]
 rw [e1, e2]
 unfold motM
 have e3 : pointsP items i (buildN items i).frm = headP items i (buildN items i).frm ++ [centerP (itA items i)] ++ [fine (itA items i).to] := by
  unfold pointsP
  rw [if_pos hs]
  unfold tailP
  rw [if_neg hsoft]
  unfold chordsP
  rw [if_neg (by have := hs.1; omega)]
  rfl
 rw [e3, List.foldl_append, List.foldl_append, List.foldl_cons, List.foldl_nil, List.foldl_cons, List.foldl_nil]
 exact stepM_center _ hs _ _ _ _
theorem l_path_Settled {MS MB : List AC -> Option (List AC)} {items : List Itm} {segs marks : List (List AC)} {st : Pt} {b : Bool} {len sp mid : Int} (hl : items.length <= 1000) (hS : ∀ it, MS (itmR it) = some [B (decide (smI it))]) :
  ∀ n : Nat, n <= items.length -> ∃ o : Nat × List AC, loopC (st_path_Settled_5 MS MB) [.view kSgm segs, .view kMrk marks, .view kItm (items.map itmR), I ((n : Int) - 1), I st.x, I st.y, I st.z, B b, I len, I sp, I mid] = some o /\
   match lastNO items n with
   | some i => o = (1, [I (if smI (itA items i) /\ (itA items i).blend ≠ 0 then mid else len)])
   | none => o = (2, [.view kSgm segs, .view kMrk marks, I st.x, I st.y, I st.z, B b, I len, I sp, I mid])
 | 0, _ => by
  refine ⟨_, loop_end (o := (2, _)) ?_ (by simp), rfl⟩
  rw [st_path_Settled_5_eq, bif_neg (by omega)]
 | n + 1, hn => by
  have hlt : n < items.length := by omega
  have hr := row_itA hlt
  have hs := hS (itA items n)
  simp only [itmR] at hs
  have hin : (0 : Int) <= (n : Int) /\ (n : Int) < (items.length : Int) := by omega
  have e : ((n + 1 : Nat) : Int) - 1 = n := by omega
  have hst : st_path_Settled_5 MS MB [.view kSgm segs, .view kMrk marks, .view kItm (items.map itmR), I n, I st.x, I st.y, I st.z, B b, I len, I sp, I mid] =
    if (itA items n).kind = 10 then some (0, [.view kSgm segs, .view kMrk marks, .view kItm (items.map itmR), I ((n : Int) - 1), I st.x, I st.y, I st.z, B b, I len, I sp, I mid])
    else some (1, [I (if smI (itA items n) /\ (itA items n).blend ≠ 0 then mid else len)]) := by
   rw [st_path_Settled_5_eq]
   simp only [go_sem, List.length_map, Int.toNat_natCast, hr, hs, if_pos hin]
   rw [if_pos (by omega), wrap_id (by omega)]
   by_cases c1 : (itA items n).kind = 10
   ·rw [if_pos c1, if_pos c1]
   ·rw [if_neg c1, if_neg c1]
    by_cases c2 : smI (itA items n)
    ·rw [if_pos c2]
     by_cases c3 : (itA items n).blend ≠ 0
     ·rw [if_pos c3, if_pos ⟨c2, c3⟩]
     ·rw [if_neg c3, if_neg (fun g => c3 g.2)]
    ·rw [if_neg c2, if_neg (fun g => c2 g.1)]
  rw [e]
  unfold lastNO
  by_cases c1 : (itA items n).kind = 10
  ·rw [if_pos c1] at hst ⊢
   rw [loop_more hst]
   exact l_path_Settled hl hS n (by omega)
  ·rw [if_neg c1] at hst ⊢
   exact ⟨_, loop_end hst (by simp), rfl⟩
theorem a_path_Settled {MS MB : List AC -> Option (List AC)} {items : List Itm} (hl : items.length <= 15) (hS : ∀ it, MS (itmR it) = some [B (decide (smI it))]) (h : ∃ o, MB [.view kItm (items.map itmR)] = some o /\ builtR items o) :
  mf_path_Settled MS MB (loopC (st_path_Settled_5 MS MB)) [.view kItm (items.map itmR)] = some [I (if checkP items = 0 then settledP items else 0)] := by
 obtain ⟨o, h1, h2⟩ := h
 unfold builtR at h2
 by_cases c : checkP items = 0
 ·rw [if_pos c] at h2 ⊢
  have hright := (check_right c).2
  have hsum := sum_len hright
  have hmid := fun i hn hs => mid_set (items := items) (i := i) hn hs
  have hlp := @l_path_Settled MS MB items ((pathP items).segs.map sgmR) ((pathP items).marks.map mrkR) (pathP items).start (buildN items items.length).begun (buildN items items.length).len (buildN items items.length).speed (midN items items.length) (by omega) hS items.length (by omega)
  obtain ⟨r, r1, r2⟩ := hlp
  rw [mf_path_Settled_eq, h1]
  subst h2
  have hw : IntKind.i64.wrap ((items.length : Int) - 1) = (items.length : Int) - 1 := wrap_id (by omega)
  unfold settledP
  rw [hsum]
  generalize loopC (st_path_Settled_5 MS MB) = N at *
  simp only [go_sem, List.length_map, hw, r1]
  rw [if_neg (by simp)]
  cases hn : lastNO items items.length with
  | none =>
   rw [hn] at r2
   simp only at r2
   subst r2
   rfl
  | some i =>
   rw [hn] at r2
   simp only at r2
   subst r2
   simp only [go_sem]
   by_cases c2 : smI (itA items i) /\ (itA items i).blend ≠ 0
   ·rw [if_pos c2, if_pos c2, hmid i hn c2.1]
   ·rw [if_neg c2, if_neg c2]
 ·rw [if_neg c] at h2 ⊢
  subst h2
  rw [mf_path_Settled_eq, h1]
  simp only [go_sem]
  rw [if_pos c]
theorem s_path_Settled {items : List Itm} (hl : items.length <= 15) : m_path_Settled [.view kItm (items.map itmR)] = some [I (if checkP items = 0 then settledP items else 0)] := a_path_Settled hl s_path_smooth (s_path_build hl)
end Go.Bm
/- positions of a path in the reference; the path of the law's maker -/
set_option maxRecDepth 100000
namespace Go.Bm
open Classical

end Go.Bm
/- which paths are valid: the program and the reference agree -/
set_option maxRecDepth 100000
namespace Go.Bm
open Classical

def segOne (item : Int) (a : Pt) (g : Sgm) : Prop := bd B24 g.to /\ g.to ≠ a /\ g.len = lenP a g.to /\ item <= g.item /\ (0 <= g.feed /\ g.feed <= 16777216) /\ (0 <= g.lead /\ g.lead <= 16777216)
def segsOK (item : Int) (a : Pt) : List Sgm -> Prop
 | [] => True
 | g :: l => segOne item a g /\ segsOK g.item g.to l
def markOne (last n : Int) (m : Mrk) : Prop := last <= m.at_ /\ m.at_ <= n /\ (1 <= m.kind /\ m.kind <= 6) /\ 0 <= m.item
def marksOK (last n : Int) : List Mrk -> Prop
 | [] => True
 | m :: l => markOne last n m /\ marksOK m.at_ n l
theorem row_sg {l : List Sgm} {i : Nat} (h : i < l.length) : nth [] (l.map sgmR) i = sgmR l[i] := nth_map _ _ _ _ h
theorem row_mk {l : List Mrk} {i : Nat} (h : i < l.length) : nth [] (l.map mrkR) i = mrkR l[i] := nth_map _ _ _ _ h

end Go.Bm
/- what the maker makes can be drawn -/
set_option maxRecDepth 100000
namespace Go.Bm

theorem rot_cases (r k : Int) : (rotU r k = r /\ rotW r k = 0) \/ (rotU r k = 0 /\ rotW r k = r) \/ (rotU r k = -r /\ rotW r k = 0) \/ (rotU r k = 0 /\ rotW r k = -r) := by
 have hc : k % 4 = 0 \/ k % 4 = 1 \/ k % 4 = 2 \/ k % 4 = 3 := by omega
 unfold rotU rotW
 rcases hc with h | h | h | h <;> simp [h]
theorem rot_sq (r k : Int) : sq2 (rotU r k) (rotW r k) = r * r := by
 unfold sq2
 rcases rot_cases r k with ⟨h1, h2⟩ | ⟨h1, h2⟩ | ⟨h1, h2⟩ | ⟨h1, h2⟩ <;> rw [h1, h2] <;> grind
theorem rot_turn {p q k t : Int} (ht : t = 1 \/ t = 2 \/ t = 3) (hp : 0 < p) (hq : 0 < q) : crs (rotU p k) (rotW p k) (rotU q (k + t)) (rotW q (k + t)) ≠ 0 \/ dt2 (rotU p k) (rotW p k) (rotU q (k + t)) (rotW q (k + t)) < 0 := by
 have hc : k % 4 = 0 \/ k % 4 = 1 \/ k % 4 = 2 \/ k % 4 = 3 := by omega
 have hpq : 0 < p * q := Int.mul_pos hp hq
 have hm : -p * q = -(p * q) /\ p * -q = -(p * q) /\ -p * -q = p * q := ⟨Int.neg_mul .., Int.mul_neg .., Int.neg_mul_neg ..⟩
 have e : ∀ j : Int, (k + t) % 4 = j -> ∀ i : Int, k % 4 = i -> crs (rotU p k) (rotW p k) (rotU q (k + t)) (rotW q (k + t)) = (if i = 0 then p else if i = 2 then -p else 0) * (if j = 1 then q else if j = 3 then -q else 0) - (if i = 1 then p else if i = 3 then -p else 0) * (if j = 0 then q else if j = 2 then -q else 0) /\
   dt2 (rotU p k) (rotW p k) (rotU q (k + t)) (rotW q (k + t)) = (if i = 0 then p else if i = 2 then -p else 0) * (if j = 0 then q else if j = 2 then -q else 0) + (if i = 1 then p else if i = 3 then -p else 0) * (if j = 1 then q else if j = 3 then -q else 0) := by
  intro j hj i hi
  subst hj hi
  exact ⟨rfl, rfl⟩
 rcases ht with rfl | rfl | rfl <;> rcases hc with h1 | h1 | h1 | h1
 ·obtain ⟨e1, e2⟩ := e 1 (by omega) _ h1
  simp at e1 e2; omega
 ·obtain ⟨e1, e2⟩ := e 2 (by omega) _ h1
  simp at e1 e2; omega
 ·obtain ⟨e1, e2⟩ := e 3 (by omega) _ h1
  simp at e1 e2; omega
 ·obtain ⟨e1, e2⟩ := e 0 (by omega) _ h1
  simp at e1 e2; omega
 ·obtain ⟨e1, e2⟩ := e 2 (by omega) _ h1
  simp at e1 e2; omega
 ·obtain ⟨e1, e2⟩ := e 3 (by omega) _ h1
  simp at e1 e2; omega
 ·obtain ⟨e1, e2⟩ := e 0 (by omega) _ h1
  simp at e1 e2; omega
 ·obtain ⟨e1, e2⟩ := e 1 (by omega) _ h1
  simp at e1 e2; omega
 ·obtain ⟨e1, e2⟩ := e 3 (by omega) _ h1
  simp at e1 e2; omega
 ·obtain ⟨e1, e2⟩ := e 0 (by omega) _ h1
  simp at e1 e2; omega
 ·obtain ⟨e1, e2⟩ := e 1 (by omega) _ h1
  simp at e1 e2; omega
 ·obtain ⟨e1, e2⟩ := e 2 (by omega) _ h1
  simp at e1 e2; omega
theorem arc_turn {size : Int} {it : Itm} (h : ArcMade size it) : turnOK it := by
 obtain ⟨r, k, t, g, x, h1, h2, h3, h4, h5, h6, h7, h8, h9, h10, h11, h12, h13⟩ := h.ends
 have hp := h.plane
 have a1 : dU it it.fr = rotU r k := by unfold dU; rw [h12, (pl_sp hp).1]; omega
 have a2 : dW it it.fr = rotW r k := by unfold dW; rw [h12, (pl_sp hp).2.1]; omega
 have a3 : dU it it.to = rotU (r + g) (k + t) := by unfold dU; rw [h12, h13, (pl_sp hp).1, (pl_sp hp).1]; omega
 have a4 : dW it it.to = rotW (r + g) (k + t) := by unfold dW; rw [h12, h13, (pl_sp hp).2.1, (pl_sp hp).2.1]; omega
 have q1 : qA it = r * r := by unfold qA; rw [a1, a2, rot_sq]
 have q2 : qB it = (r + g) * (r + g) := by unfold qB; rw [a3, a4, rot_sq]
 have m1 : 64 <= r * r := by
  have := Int.mul_le_mul h1 h1 (by omega) (by omega)
  omega
 have m2 : 64 <= (r + g) * (r + g) := by
  have := Int.mul_le_mul (show (8 : Int) <= r + g by omega) (show (8 : Int) <= r + g by omega) (by omega) (by omega)
  omega
 unfold turnOK
 refine ⟨by omega, by omega, ?_, ?_, ?_⟩
 ·rw [q1, q2]
  unfold nearQ
  right
  have hg : g * g <= 16 := by
   have := Int.mul_le_mul h8 h8 h7 (by omega)
   omega
  have e1 : r * r + (r + g) * (r + g) - 16 = 2 * (r * (r + g)) + (g * g - 16) := by grind
  have hpos : 0 <= r * (r + g) := Int.mul_nonneg (by omega) (by omega)
  have hge : 64 <= r * (r + g) := by
   have := Int.mul_le_mul h1 (show (8 : Int) <= r + g by omega) (by omega) (by omega)
   omega
  have hgg : 0 <= g * g := Int.mul_nonneg h7 h7
  have e2 : 4 * (r * r) * ((r + g) * (r + g)) = (2 * (r * (r + g))) * (2 * (r * (r + g))) := by grind
  rw [e1, e2]
  generalize 2 * (r * (r + g)) = m at *
  exact Int.mul_self_le_mul_self (by omega) (by omega)
 ·intro hf
  rw [h11] at hf
  have ht := of_decide_eq_true hf
  rw [a1, a2, a3, a4, ht, h10 ht, Int.add_zero, Int.add_zero]
  exact ⟨rfl, rfl⟩
 ·intro hf
  rw [h11] at hf
  have ht := of_decide_eq_false hf
  unfold cAB dAB
  rw [a1, a2, a3, a4]
  exact rot_turn (by omega) (by omega) (by omega)
theorem made_valid {it : Itm} (h : Made it) (h1 : bd 1000000 it.fr) (h2 : bd 1000000 it.to) : validI it := by
 refine ⟨h.kind, bd_mono h1 (by omega), bd_mono h2 (by omega), fun h3 => ?_⟩
 have ha := h.arc h3
 exact ⟨ha.plane, ha.dir, bd_mono (arc_bd ha (by omega) h1).2 (by omega), arc_turn ha⟩

end Go.Bm
/- the maker's lists of items of all kinds -/
set_option maxRecDepth 100000
namespace Go.Bm
open Classical

structure Oth (it : Itm) : Prop where
 kind : 7 <= it.kind /\ it.kind <= 14
 spin : it.kind = 8 -> 3 <= it.n /\ it.n <= 5 /\ 0 <= it.speed /\ it.speed <= 4000
 dwell : it.kind = 7 -> 0 <= it.n /\ it.n <= 4
 out : it.kind = 10 -> 0 <= it.n /\ it.n <= 15
def Link : Pt -> List Itm -> Prop
 | _, [] => True
 | p, it :: l => if motI it then it.fr = p /\ Link it.to l else Link p l
def lastL : Pt -> List Itm -> Pt
 | p, [] => p
 | p, it :: l => if motI it then lastL it.to l else lastL p l
theorem link_snoc {it : Itm} : ∀ {l : List Itm} {p : Pt}, Link p l -> (motI it -> it.fr = lastL p l) -> Link p (l ++ [it])
 | [], p, _, h => by
  simp only [List.nil_append, Link]
  split
  ·rename_i c; exact ⟨h c, trivial⟩
  ·trivial
 | a :: l, p, h1, h => by
  simp only [List.cons_append, Link] at h1 ⊢
  unfold lastL at h
  by_cases c : motI a
  ·rw [if_pos c] at h1 h ⊢
   exact ⟨h1.1, link_snoc h1.2 h⟩
  ·rw [if_neg c] at h1 h ⊢
   exact link_snoc h1 h
theorem lastL_snoc {it : Itm} : ∀ {l : List Itm} {p : Pt}, lastL p (l ++ [it]) = if motI it then it.to else lastL p l
 | [], p => by simp only [List.nil_append, lastL]
 | a :: l, p => by
  simp only [List.cons_append, lastL]
  by_cases c : motI a
  ·rw [if_pos c, if_pos c]; exact lastL_snoc
  ·rw [if_neg c, if_neg c]; exact lastL_snoc
structure Items (A : Nat) (p : Pt) (l : List Itm) : Prop where
 link : Link p l
 made : ∀ it ∈ l, (motI it /\ Made it /\ blank it /\ bd A it.fr /\ bd A it.to) \/ Oth it
theorem items_snoc {A : Nat} {p : Pt} {l : List Itm} {it : Itm} (h : Items A p l) (h1 : motI it -> it.fr = lastL p l) (h2 : (motI it /\ Made it /\ blank it /\ bd A it.fr /\ bd A it.to) \/ Oth it) : Items A p (l ++ [it]) := by
 refine ⟨link_snoc h.link h1, fun i hi => ?_⟩
 simp only [List.mem_append, List.mem_singleton] at hi
 rcases hi with hi | rfl
 ·exact h.made i hi
 ·exact h2
theorem oth_mot {it : Itm} (h : Oth it) : ¬ motI it := fun g => by have := h.kind; have := g.2; omega

theorem a_other {MN : List AC -> Option (List AC)} {l : List (List AC)} (hN : NextOK l MN) (k : Nat) :
  ∃ (it : Itm) (k' : Nat), mf_cncmill_other MN [.view kInts l, I k] = some (itmR it ++ [.view kInts l, I k']) /\ k <= k' /\ Oth it := by
 rw [mf_cncmill_other_eq]
 obtain ⟨v0, k0, e0, a0, b0, c0, -, -⟩ := hN k (n := 8) (by omega)
 obtain ⟨v1, k1, e1, a1, b1, c1, -, -⟩ := hN k0 (n := 16) (by omega)
 obtain ⟨v2, k2, e2, a2, b2, c2, -, -⟩ := hN k1 (n := 2) (by omega)
 obtain ⟨v3, k3, e3, a3, b3, c3, -, -⟩ := hN k0 (n := 5) (by omega)
 obtain ⟨v4, k4, e4, a4, b4, c4, -, -⟩ := hN k0 (n := 3) (by omega)
 obtain ⟨v5, k5, e5, a5, b5, c5, -, -⟩ := hN k4 (n := 4000) (by omega)
 simp only [go_sem, e0, e1, e2, e3, e4, e5]
 rw [wrap_id (x := 3 + v4) (by omega)]
 have fin : ∀ (kd n sp : Int) (on : Bool) (k' : Nat), k <= k' -> Oth ⟨kd, 0, ⟨0, 0, 0⟩, ⟨0, 0, 0⟩, 0, ⟨0, 0, 0⟩, 0, false, 0, false, 0, 0, 0, n, sp, on⟩ ->
   ∃ (it : Itm) (k'' : Nat), some [I kd, I 0, I 0, I 0, I 0, I 0, I 0, I 0, I 0, I 0, I 0, I 0, I 0, B false, I 0, B false, I 0, I 0, I 0, I n, I sp, B on, .view kInts l, I k'] = some (itmR it ++ [.view kInts l, I k'']) /\ k <= k'' /\ Oth it := by
  intro kd n sp on k' h1 h2
  exact ⟨_, k', rfl, h1, h2⟩
 by_cases c0 : v0 = 0
 ·rw [if_pos c0]; exact fin _ _ _ _ _ (by omega) ⟨by simp only; omega, by simp, by simp, fun _ => by simp only; omega⟩
 rw [if_neg c0]
 by_cases c1 : v0 = 1
 ·rw [if_pos c1]; exact fin _ _ _ _ _ (by omega) ⟨by simp only; omega, by simp, by simp, fun _ => by simp only; omega⟩
 rw [if_neg c1]
 by_cases c2 : v0 = 2
 ·rw [if_pos c2]; exact fin _ _ _ _ _ (by omega) ⟨by simp only; omega, by simp, fun _ => by simp only; omega, by simp⟩
 rw [if_neg c2]
 by_cases c3 : v0 = 3
 ·rw [if_pos c3]; exact fin _ _ _ _ _ (by omega) ⟨by simp only; omega, fun _ => by simp only; omega, by simp, by simp⟩
 rw [if_neg c3]
 by_cases c4 : v0 = 4
 ·rw [if_pos c4]; exact fin _ _ _ _ _ (by omega) ⟨by simp only; omega, by simp, by simp, by simp⟩
 rw [if_neg c4]
 by_cases c5 : v0 = 5
 ·rw [if_pos c5]; exact fin _ _ _ _ _ (by omega) ⟨by simp only; omega, by simp, by simp, by simp⟩
 rw [if_neg c5]
 by_cases c6 : v0 = 6
 ·rw [if_pos c6]; exact fin _ _ _ _ _ (by omega) ⟨by simp only; omega, by simp, by simp, by simp⟩
 rw [if_neg c6]
 exact fin _ _ _ _ _ (by omega) ⟨by simp only; omega, by simp, by simp, by simp⟩
theorem s_other_item {l : List (List AC)} (hl : Src l) (k : Nat) : ∃ (it : Itm) (k' : Nat), m_cncmill_other [.view kInts l, I k] = some (itmR it ++ [.view kInts l, I k']) /\ k <= k' /\ Oth it := a_other (nextOK hl) k
theorem kind_at8 {v : Int} (h : 0 <= v /\ v < 8) : ∃ x, intOf (nth .dead (nth [] [[I 2], [I 2], [I 2], [I 3], [I 1], [I 6], [I 5], [I 4]] v.toNat) 0) = x /\ 1 <= x /\ x <= 6 := by
 have hc : v = 0 \/ v = 1 \/ v = 2 \/ v = 3 \/ v = 4 \/ v = 5 \/ v = 6 \/ v = 7 := by omega
 rcases hc with rfl | rfl | rfl | rfl | rfl | rfl | rfl | rfl <;> exact ⟨_, rfl, by decide⟩
theorem a_ItemsL {MM MO ML MN MF : List AC -> Option (List AC)} {l : List (List AC)} (hN : NextOK l MN)
  (hM : ∀ {p : Pt}, bd 100000000 p -> ∀ {kind : Int}, (1 <= kind /\ kind <= 6) -> ∀ k : Nat,
   ∃ (it : Itm) (k' : Nat), MM [I p.x, I p.y, I p.z, I kind, .view kInts l, I k] = some (itmR it ++ [.view kInts l, I k']) /\ k <= k' /\ it.fr = p /\ it.kind = kind /\ Made it /\ blank it)
  (hO : ∀ k : Nat, ∃ (it : Itm) (k' : Nat), MO [.view kInts l, I k] = some (itmR it ++ [.view kInts l, I k']) /\ k <= k' /\ Oth it)
  (hL : ∀ k : Nat, ML [.view kInts l, I k] = some [B (decide (k < l.length)), .view kInts l, I k]) {most : Int} {fin : Bool} (hm : most <= 100) {p : Pt} :
  ∀ s : List Itm × Nat, (Items (4 + 40 * 102) p s.1 /\ bd (4 + 40 * s.1.length) (lastL p s.1) /\ (s.1 = [] \/ s.1.length <= most + 1)) ->
   ∃ o, loopC (st_cncmill_Items_4 MM MO ML MN MF) [.view kItm (s.1.map itmR), I most, B fin, I (lastL p s.1).x, I (lastL p s.1).y, I (lastL p s.1).z, .view kInts l, I s.2] = some o /\ o.1 ≠ 0 /\
    ∃ items, o = (1, [.view kItm (items.map itmR), B fin]) /\ Items (4 + 40 * 102) p items /\ (items = [] \/ items.length <= most + 1) := by
 refine loop_nat (S := List Itm × Nat) (fun s => [.view kItm (s.1.map itmR), I most, B fin, I (lastL p s.1).x, I (lastL p s.1).y, I (lastL p s.1).z, .view kInts l, I s.2]) _ (fun s => l.length - s.2) _ ?_
 rintro ⟨items, k⟩ ⟨h1, h2, h3⟩
 simp only at h1 h2 h3
 simp only
 rw [st_cncmill_Items_4_eq]
 simp only [go_sem, hL, List.length_map]
 by_cases c1 : (items.length : Int) < most
 case neg =>
  rw [if_neg c1]
  exact .inr ⟨_, rfl, by simp, items, rfl, h1, h3⟩
 rw [if_pos c1]
 by_cases c2 : k < l.length
 case neg =>
  rw [if_neg (by simpa using c2)]
  exact .inr ⟨_, rfl, by simp, items, rfl, h1, h3⟩
 rw [if_pos (by simpa using c2)]
 obtain ⟨v, k1, e1, a1, b1, d1, d2, -⟩ := hN k (n := 12) (by omega)
 have d3 := d2 c2
 subst d3
 simp only [go_sem, e1]
 have hmost : items.length < 100 := by omega
 by_cases c3 : v < 4
 ·rw [if_pos c3]
  obtain ⟨it, k2, e2, g1, g2⟩ := hO (k + 1)
  have hnm := oth_mot g2
  simp only [go_sem, e2, itmR, List.cons_append, List.nil_append]
  rw [if_pos (by simp; omega)]
  left
  refine ⟨(items ++ [it], k2), ?_, ⟨items_snoc h1 (fun h => absurd h hnm) (.inr g2), ?_, .inr ?_⟩, ?_⟩
  ·simp only [lastL_snoc, if_neg hnm, List.map_append, List.map_cons, List.map_nil, itmR]
  ·simp only [lastL_snoc, if_neg hnm, List.length_append, List.length_singleton]
   exact bd_mono h2 (by omega)
  ·simp only [List.length_append, List.length_singleton]; omega
  ·simp only; omega
 ·rw [if_neg c3, wrap_id (by omega)]
  obtain ⟨x, hx, hx1, hx2⟩ := kind_at8 (v := v - 4) (by omega)
  have hpb : bd 100000000 (lastL p items) := bd_mono h2 (by omega)
  obtain ⟨it, k2, e2, g1, g2, g3, g4, g5⟩ := hM hpb (kind := x) (by omega) (k + 1)
  have hmo : motI it := by unfold motI; omega
  have hb2 := made_bd g4 (by rw [g2]; exact h2)
  rw [if_pos (by simp; omega)]
  simp only [go_sem, hx, e2, itmR, List.cons_append, List.nil_append]
  have hmade : (motI it /\ Made it /\ blank it /\ bd (4 + 40 * 102) it.fr /\ bd (4 + 40 * 102) it.to) \/ Oth it := .inl ⟨hmo, g4, g5, by rw [g2]; exact bd_mono h2 (by omega), bd_mono hb2 (by omega)⟩
  by_cases c5 : it.kind = 5
  ·rw [if_pos c5]
   obtain ⟨v3, k3, e3, a3, b3, d3, -, -⟩ := hN k2 (n := 2) (by omega)
   obtain ⟨v4, k4, e4, a4, b4, d4, -, -⟩ := hN k3 (n := 3000) (by omega)
   simp only [go_sem, e3, e4]
   rw [wrap_id (x := 3 + v3) (by omega), wrap_id (x := 200 + v4) (by omega)]
   rw [if_pos (by simp; omega), if_pos (by simp; omega)]
   have hsp : Oth ⟨8, 0, ⟨0, 0, 0⟩, ⟨0, 0, 0⟩, 0, ⟨0, 0, 0⟩, 0, false, 0, false, 0, 0, 0, 3 + v3, 200 + v4, false⟩ := ⟨by simp only; omega, fun _ => by simp only; omega, by simp, by simp⟩
   have hnm := oth_mot hsp
   have i1 := items_snoc h1 (fun h => absurd h hnm) (.inr hsp)
   left
   refine ⟨(items ++ [⟨8, 0, ⟨0, 0, 0⟩, ⟨0, 0, 0⟩, 0, ⟨0, 0, 0⟩, 0, false, 0, false, 0, 0, 0, 3 + v3, 200 + v4, false⟩] ++ [it], k4), ?_, ⟨items_snoc i1 (fun _ => by rw [lastL_snoc, if_neg hnm]; exact g2) hmade, ?_, .inr ?_⟩, ?_⟩
   ·simp only [lastL_snoc, if_pos hmo, List.map_append, List.map_cons, List.map_nil, itmR]
   ·simp only [lastL_snoc, if_pos hmo, List.length_append, List.length_singleton]
    exact bd_mono hb2 (by omega)
   ·simp only [List.length_append, List.length_singleton]; omega
   ·simp only; omega
  ·rw [if_neg c5, if_pos (by simp; omega)]
   left
   refine ⟨(items ++ [it], k2), ?_, ⟨items_snoc h1 (fun _ => g2) hmade, ?_, .inr ?_⟩, ?_⟩
   ·simp only [lastL_snoc, if_pos hmo, List.map_append, List.map_cons, List.map_nil, itmR]
   ·simp only [lastL_snoc, if_pos hmo, List.length_append, List.length_singleton]
    exact bd_mono hb2 (by omega)
   ·simp only [List.length_append, List.length_singleton]; omega
   ·simp only; omega
def endI : Itm := ⟨14, 0, ⟨0, 0, 0⟩, ⟨0, 0, 0⟩, 0, ⟨0, 0, 0⟩, 0, false, 0, false, 0, 0, 0, 0, 0, false⟩
theorem end_oth : Oth endI := ⟨by simp [endI], by simp [endI], by simp [endI], by simp [endI]⟩
theorem a_Items {MM MO ML MN MF : List AC -> Option (List AC)} {N : List AC -> Option (Nat × List AC)} {l : List (List AC)} (hN : NextOK l MN) (hF : MF [.view kInts l] = some [.view kInts l, I 0]) {most : Int} {fin : Bool} (hm : most <= 100)
  (hL : ∀ (p : Pt) (k : Nat), bd 4 p -> ∃ items, N [.view kItm [], I most, B fin, I p.x, I p.y, I p.z, .view kInts l, I k] = some (1, [.view kItm (items.map itmR), B fin]) /\ Items 4084 p items /\ (items = [] \/ items.length <= most + 1)) :
  ∃ (p : Pt) (items : List Itm), mf_cncmill_Items MM MO ML MN MF N [.view kInts l, I most, B fin] = some [.view kItm ((items ++ if fin = true then [endI] else []).map itmR)] /\ Items 4084 p items /\ (items = [] \/ items.length <= most + 1) := by
 obtain ⟨v1, k1, e1, a1, b1, c1, -, -⟩ := hN 0 (n := 9) (by omega)
 obtain ⟨v2, k2, e2, a2, b2, c2, -, -⟩ := hN k1 (n := 9) (by omega)
 obtain ⟨v3, k3, e3, a3, b3, c3, -, -⟩ := hN k2 (n := 9) (by omega)
 obtain ⟨items, h1, h2, h3⟩ := hL ⟨v1 - 4, v2 - 4, v3 - 4⟩ k3 ⟨by simp only; omega, by simp only; omega, by simp only; omega⟩
 rw [mf_cncmill_Items_eq]
 have e1' : MN [I 9, .view kInts l, I 0] = some [I v1, .view kInts l, I k1] := e1
 simp only [go_sem, hF, e1', e2, e3]
 rw [wrap_id (x := v1 - 4) (by omega), wrap_id (x := v2 - 4) (by omega), wrap_id (x := v3 - 4) (by omega)]
 simp only [h1, go_sem]
 refine ⟨_, items, ?_, h2, h3⟩
 have hlen : items.length <= 101 := by
  rcases h3 with h3 | h3
  ·rw [h3]; simp
  ·omega
 cases fin
 ·simp
 ·rw [if_pos rfl, if_pos (by simp; omega), if_pos rfl, List.map_append]
  rfl
theorem s_Items {l : List (List AC)} (hl : Src l) {most : Int} (hm : most <= 100) (fin : Bool) :
  ∃ (p : Pt) (items : List Itm), m_cncmill_Items [.view kInts l, I most, B fin] = some [.view kItm (items.map itmR)] /\ Items 4084 p items /\ (items.length : Int) <= max most (-1) + 2 /\ (fin = true -> ∃ l, items = l ++ [endI] /\ (l.length : Int) <= max most (-1) + 1) /\ (fin = false -> (items.length : Int) <= max most (-1) + 1) := by
 obtain ⟨p, items, h1, h2, h3⟩ := a_Items (MM := m_cncmill_motion) (MO := m_cncmill_other) (ML := m_cncmill_Source_Left) (N := l_cncmill_Items_4) (fin := fin) (nextOK hl) (s_From l) hm fun p k hp => by
  obtain ⟨o, h1, -, items, rfl, h3, h4⟩ := a_ItemsL (MF := m_cncmill_From) (fin := fin) (nextOK hl) (fun hp _ hk k => s_motion hl hp hk k) (fun k => s_other_item hl k) (s_Left l) hm (p := p) ([], k) ⟨⟨trivial, by simp⟩, hp, .inl rfl⟩
  exact ⟨items, h1, h3, h4⟩
 have hle : (items.length : Int) <= max most (-1) + 1 := by
  rcases h3 with h3 | h3
  ·rw [h3]; simp; omega
  ·omega
 refine ⟨p, _, h1, ?_, ?_, fun hf => ?_, fun hf => ?_⟩
 ·cases fin
  ·simpa using h2
  ·simp only [if_true]
   exact items_snoc h2 (fun h => absurd h (oth_mot end_oth)) (.inr end_oth)
 ·cases fin
  ·simp; omega
  ·simp; omega
 ·subst hf; exact ⟨items, by simp, hle⟩
 ·subst hf; simpa using hle

theorem link_chk {A : Nat} {items : List Itm} (hA : A <= 1000000) (hm : ∀ it ∈ items, (motI it /\ Made it /\ blank it /\ bd A it.fr /\ bd A it.to) \/ Oth it) : ∀ (k i : Nat) (last : Int) (p : Pt), i + k = items.length -> Link p (items.drop i) -> (0 <= last -> (itA items last.toNat).to = p) -> chkF items k i last = 0
 | 0, _, _, _, _, _, _ => rfl
 | k + 1, i, last, p, hi, h, hp => by
  have hlt : i < items.length := by omega
  have hit := hm _ (itA_mem hlt)
  rw [drop_itA hlt] at h
  unfold Link at h
  unfold chkF
  have hw : ¬ wrongI (itA items i) := by
   rcases hit with ⟨h1, h2, h3, h4, h5⟩ | ho
   ·have hv := made_valid h2 (bd_mono h4 hA) (bd_mono h5 hA)
    have hf := h2.feed
    have hb := h2.blend
    have hk := h2.kind
    rintro (g | g | ⟨-, g | g | g | g⟩ | ⟨g, -⟩)
    ·omega
    ·omega
    ·exact g hv
    ·omega
    ·omega
    ·omega
    ·exact g h1
   ·have hk := ho.kind
    rintro (g | g | ⟨g, -⟩ | ⟨-, g1, g2⟩)
    ·omega
    ·omega
    ·exact oth_mot ho g
    ·have := ho.spin g1; omega
  rw [if_neg hw]
  by_cases c : motI (itA items i)
  ·rw [if_pos c] at h ⊢
   rw [if_neg (fun g => g.2 (by rw [hp g.1]; exact h.1.symm))]
   exact link_chk hA hm k (i + 1) i _ (by omega) h.2 (fun _ => by rw [Int.toNat_natCast])
  ·rw [if_neg c] at h ⊢
   exact link_chk hA hm k (i + 1) last p (by omega) h hp
theorem items_check {A : Nat} {p : Pt} {items : List Itm} (hA : A <= 1000000) (h : Items A p items) (hl : items.length <= 20000) : checkP items = 0 := by
 unfold checkP
 rw [if_neg (by omega)]
 exact link_chk hA h.made items.length 0 (-1) p (by omega) (by rw [List.drop_zero]; exact h.link) (fun h => by omega)
end Go.Bm
/- the path of items that the maker makes is valid -/
set_option maxRecDepth 100000
namespace Go.Bm
open Classical

structure okW (R : Nat) (s : Spk) : Prop where
 ok : okS s
 u : s.u.natAbs <= R
 w : s.w.natAbs <= R
 r : s.r <= R
def lastIt : Int -> List Sgm -> Int
 | k, [] => k
 | _, g :: l => lastIt g.item l
structure VInv (i : Nat) (s : BSt) : Prop where
 begun : s.begun = true -> bd B24 s.start /\ segsOK 0 s.start s.segs /\ lastIt 0 s.segs <= i
 marks : marksOK 0 s.len s.marks
theorem items_mono {A A' : Nat} {p : Pt} {l : List Itm} (h : Items A p l) (hA : A <= A') : Items A' p l :=
 ⟨h.link, fun it hi => (h.made it hi).imp (fun ⟨h1, h2, h3, h4, h5⟩ => ⟨h1, h2, h3, bd_mono h4 hA, bd_mono h5 hA⟩) id⟩
theorem link_of_chain : ∀ {l : List Itm} {p : Pt}, (∀ it ∈ l, motI it) -> Chained p l -> Link p l
 | [], _, _, _ => trivial
 | it :: l, p, h, hc => by
  unfold Link
  rw [if_pos (h it (by simp))]
  exact ⟨hc.1, link_of_chain (fun i hi => h i (by simp [hi])) hc.2⟩
theorem motions_items {p : Pt} {l : List Itm} (h : Motions 40004 p l) : Items 40004 p l := by
 have hm : ∀ it ∈ l, motI it := fun it hi => by have := h.made it hi; exact ⟨by have := this.1.kind; omega, by have := this.2.2.1; omega⟩
 exact ⟨link_of_chain hm h.chain, fun it hi => .inl ⟨hm it hi, (h.made it hi).1, (h.made it hi).2.1, (h.made it hi).2.2.2⟩⟩
end Go.Bm
