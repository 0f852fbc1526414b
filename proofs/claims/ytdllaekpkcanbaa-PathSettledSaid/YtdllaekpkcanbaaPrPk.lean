/- laid together -/
import Derived.Test.YtdllaekpkcanbaaPrPm
import Derived.Test.YtdllaekpkcanbaaPrGd
import Derived.Test.YtdllaekpkcanbaaMy1
set_option linter.unusedVariables false
set_option linter.unusedSimpArgs false
/- what is settled of a path does not change by what follows -/
set_option maxRecDepth 100000
namespace Go.Bm
open Classical

theorem itA_app {I R : List Itm} {j : Nat} (h : j < I.length) : itA (I ++ R) j = itA I j := by
 unfold itA
 simp [List.getD_eq_getElem?_getD, List.getElem?_append_left h]
theorem nextSm_app {R : List Itm} : ∀ {L : List Itm} {c : Nat}, (∃ x ∈ L, x.kind ≠ 10) -> nextSm (L ++ R) c = nextSm L c
 | [], _, h => by obtain ⟨x, h, -⟩ := h; cases h
 | y :: L, c, h => by
  rw [List.cons_append]
  unfold nextSm
  by_cases c1 : y.kind = 10
  ·rw [if_pos c1, if_pos c1]
   obtain ⟨x, hx, hk⟩ := h
   refine nextSm_app ⟨x, ?_, hk⟩
   rcases List.mem_cons.1 hx with rfl | hx
   ·exact absurd c1 hk
   ·exact hx
  ·rw [if_neg c1, if_neg c1]
theorem nextSy_app {R : List Itm} : ∀ {L : List Itm}, (∃ x ∈ L, motI x) -> nextSy (L ++ R) = nextSy L
 | [], h => by obtain ⟨x, h, -⟩ := h; cases h
 | y :: L, h => by
  rw [List.cons_append]
  unfold nextSy
  by_cases c1 : motI y
  ·rw [if_pos c1, if_pos c1]
  ·rw [if_neg c1, if_neg c1]
   obtain ⟨x, hx, hk⟩ := h
   refine nextSy_app ⟨x, ?_, hk⟩
   rcases List.mem_cons.1 hx with rfl | hx
   ·exact absurd hk c1
   ·exact hx
theorem drop_app {I R : List Itm} {i : Nat} (h : i <= I.length) : (I ++ R).drop i = I.drop i ++ R := by
 rw [List.drop_append_of_le_length h]
theorem drop_mem {I : List Itm} {i j : Nat} (hi : i <= j) (hj : j < I.length) : itA I j ∈ I.drop i := by
 rw [itA_get hj, List.mem_iff_getElem]
 refine ⟨j - i, by simp; omega, ?_⟩
 rw [List.getElem_drop]
 congr 1; omega
theorem soft_app {I R : List Itm} {i m : Nat} (hi : i < m) (hm : m < I.length) (hk : (itA I m).kind ≠ 10) : softK (I ++ R) i = softK I i := by
 unfold softK
 rw [itA_app (show i < I.length by omega), drop_app (by omega), nextSm_app ⟨_, drop_mem (i := i + 1) (by omega) hm, hk⟩]
structure SameB (s t : BSt) : Prop where
 segs : s.segs = t.segs
 len : s.len = t.len
 speed : s.speed = t.speed
 frm : s.frm = t.frm
 begun : s.begun = t.begun
 start : s.start = t.start
 at_ : s.at_ = t.at_
theorem joined_app {I R : List Itm} {i k : Nat} (hi : i < I.length) (hk : k < I.length) : joinedP (I ++ R) i k = joinedP I i k := by
 unfold joinedP
 rw [itA_app hi, itA_app hk]
theorem soft_lt {I : List Itm} {i : Nat} (h : 0 <= softK I i) : (softK I i).toNat < I.length := by
 rcases softK_spec I i with h1 | ⟨-, -, k, h1, -, h2, -⟩
 ·omega
 ·rw [h1]; simpa using h2
theorem head_app {I R : List Itm} {i : Nat} {frm : Int} (hi : i < I.length) (hf : frmOK I i frm) : headP (I ++ R) i frm = headP I i frm := by
 unfold headP
 rcases hf with rfl | ⟨f, rfl, hf, -⟩
 ·rw [if_neg (by omega), if_neg (by omega), itA_app hi]
 ·rw [if_pos (by omega), if_pos (by omega), joined_app (by simpa using hf) hi]
theorem tail_app {I R : List Itm} {i : Nat} (hi : i < I.length) (hs : softK (I ++ R) i = softK I i) : tailP (I ++ R) i = tailP I i := by
 unfold tailP
 rw [hs]
 by_cases c : 0 <= softK I i
 ·rw [if_pos c, if_pos c, joined_app hi (soft_lt c)]
 ·rw [if_neg c, if_neg c, itA_app hi]
theorem points_app {I R : List Itm} {i : Nat} {frm : Int} (hi : i < I.length) (hf : frmOK I i frm) (hs : softK (I ++ R) i = softK I i) : pointsP (I ++ R) i frm = pointsP I i frm := by
 unfold pointsP
 rw [head_app hi hf, tail_app hi hs, itA_app hi]
theorem step_app {I R : List Itm} {i : Nat} {s t : BSt} (hi : i < I.length) (hf : frmOK I i s.frm) (hs : softK (I ++ R) i = softK I i) (h : SameB t s) : SameB (bStep (I ++ R) i t) (bStep I i s) := by
 obtain ⟨h1, h2, h3, h4, h5, h6, h7⟩ := h
 unfold bStep motS
 rw [itA_app hi, h4, points_app hi hf hs, hs, h1, h2, h3, h5, h6, h7]
 by_cases c : motI (itA I i)
 ·rw [if_pos c, if_pos c]; exact ⟨rfl, rfl, rfl, rfl, rfl, rfl, rfl⟩
 ·rw [if_neg c, if_neg c]; exact ⟨rfl, rfl, rfl, rfl, rfl, rfl, rfl⟩
theorem build_app {I R : List Itm} {m : Nat} (hright : ∀ j < I.length, ¬ wrongI (itA I j)) (hm : m < I.length) (hk : (itA I m).kind ≠ 10) : ∀ i, i <= m -> SameB (buildN (I ++ R) i) (buildN I i)
 | 0, _ => ⟨rfl, rfl, rfl, rfl, rfl, rfl, rfl⟩
 | i + 1, hi => step_app (by omega) (buildN_ok hright i (by omega)).frm (soft_app (by omega) hm hk) (build_app hright hm hk i (by omega))
theorem quiet {I : List Itm} {i : Nat} : ∀ k, (∀ j, i <= j -> j < i + k -> ¬ motI (itA I j)) -> (buildN I (i + k)).segs = (buildN I i).segs /\ (buildN I (i + k)).len = (buildN I i).len /\ (buildN I (i + k)).begun = (buildN I i).begun /\ (buildN I (i + k)).start = (buildN I i).start
 | 0, _ => ⟨rfl, rfl, rfl, rfl⟩
 | k + 1, h => by
  obtain ⟨h1, h2, h3, h4⟩ := quiet k fun j a b => h j a (by omega)
  have hm := h (i + k) (by omega) (by omega)
  have e : buildN I (i + (k + 1)) = bStep I (i + k) (buildN I (i + k)) := rfl
  rw [e]
  unfold bStep
  rw [if_neg hm]
  exact ⟨h1, h2, h3, h4⟩
noncomputable def cutN (I : List Itm) (m : Nat) : List Sgm × Int × Pt :=
 (headP I m (buildN I m).frm ++ [centerP (itA I m)]).foldl (addPt m (rate (itA I m) (buildN I m).speed) (leadI (itA I m))) ((buildN I m).segs, (buildN I m).len, if (buildN I m).begun = true then (buildN I m).at_ else fine (itA I m).fr)
noncomputable def stdSegs (I : List Itm) : List Sgm :=
 match lastNO I I.length with
 | some m => if smI (itA I m) /\ (itA I m).blend ≠ 0 then (cutN I m).1 else (pathP I).segs
 | none => (pathP I).segs
theorem sm_mot {it : Itm} (h : smI it) : motI it := ⟨by have := h.1; omega, by have := h.1; omega⟩
theorem cut_next {I : List Itm} {m : Nat} (h : smI (itA I m)) : (buildN I (m + 1)).segs = ((tailP I m).foldl (addPt m (rate (itA I m) (buildN I m).speed) (leadI (itA I m))) (cutN I m)).1 /\ (buildN I (m + 1)).len = ((tailP I m).foldl (addPt m (rate (itA I m) (buildN I m).speed) (leadI (itA I m))) (cutN I m)).2.1 := by
 have e : buildN I (m + 1) = bStep I m (buildN I m) := rfl
 rw [e]
 unfold bStep motS pointsP cutN
 rw [if_pos (sm_mot h), if_pos h, List.foldl_append]
 exact ⟨rfl, rfl⟩
theorem kinds_after {I : List Itm} {m : Nat} (h : lastNO I I.length = some m) : m < I.length /\ (itA I m).kind ≠ 10 /\ ∀ j, m < j -> j < I.length -> (itA I j).kind = 10 := lastNO_spec h
theorem not_mot {it : Itm} (h : it.kind = 10) : ¬ motI it := fun c => by have := c.2; omega
theorem after {I : List Itm} {m : Nat} (h : lastNO I I.length = some m) : (pathP I).segs = (buildN I (m + 1)).segs /\ (pathP I).start = (buildN I (m + 1)).start /\ (buildN I I.length).len = (buildN I (m + 1)).len /\ (buildN I I.length).begun = (buildN I (m + 1)).begun := by
 obtain ⟨h1, h2, h3⟩ := kinds_after h
 obtain ⟨a, b, c, d⟩ := quiet (I := I) (i := m + 1) (I.length - (m + 1)) fun j g1 g2 => not_mot (h3 j (by omega) (by omega))
 rw [show m + 1 + (I.length - (m + 1)) = I.length by omega] at a b c d
 exact ⟨a, d, b, c⟩
theorem std_pre (I : List Itm) : ∃ l, (pathP I).segs = stdSegs I ++ l := by
 unfold stdSegs
 split
 ·rename_i m h
  split
  ·rename_i c
   obtain ⟨l, hl⟩ := fold_pre (item := m) (feed := rate (itA I m) (buildN I m).speed) (lead := leadI (itA I m)) (tailP I m) (cutN I m)
   exact ⟨l, by rw [(after h).1, (cut_next c.1).1, hl]⟩
  ·exact ⟨[], by simp⟩
 ·exact ⟨[], by simp⟩
theorem lastNO_none {I : List Itm} : ∀ {n : Nat}, lastNO I n = none -> ∀ j < n, (itA I j).kind = 10
 | 0, _, j, hj => by omega
 | n + 1, h, j, hj => by
  unfold lastNO at h
  split at h
  ·rename_i c
   by_cases e : j = n
   ·rw [e]; exact c
   ·exact lastNO_none h j (by omega)
  ·cases h
theorem lastNO_some {I : List Itm} {j : Nat} : ∀ {n : Nat}, j < n -> (itA I j).kind ≠ 10 -> ∃ m, lastNO I n = some m /\ j <= m
 | 0, h, _ => by omega
 | n + 1, h, hk => by
  unfold lastNO
  by_cases c : (itA I n).kind = 10
  ·rw [if_pos c]
   have : j ≠ n := fun e => hk (by rw [e]; exact c)
   exact lastNO_some (by omega) hk
  ·rw [if_neg c]; exact ⟨n, rfl, by omega⟩
theorem segs_ge {I : List Itm} (hright : ∀ j < I.length, ¬ wrongI (itA I j)) : ∀ g ∈ (pathP I).segs, 1 <= g.len := seg_ge hright (Nat.le_refl _)
theorem nil_segs {I : List Itm} (h : lastNO I I.length = none) : (pathP I).segs = [] := by
 have := (quiet (I := I) (i := 0) I.length fun j _ g => not_mot (lastNO_none h j (by omega))).1
 rw [Nat.zero_add] at this
 exact this
theorem settled_sum {I : List Itm} (hright : ∀ j < I.length, ¬ wrongI (itA I j)) : settledP I = sumLen (stdSegs I) := by
 unfold settledP stdSegs
 cases h : lastNO I I.length with
 | none => rfl
 | some m =>
  simp only
  by_cases c : smI (itA I m) /\ (itA I m).blend ≠ 0
  ·rw [if_pos c, if_pos c]
   obtain ⟨h1, h2, h3⟩ := kinds_after h
   have hs : ¬ 0 <= softK I m := by
    unfold softK
    rw [if_pos c]
    have key : ∀ (l : List Itm) (k : Nat), (∀ x ∈ l, x.kind = 10) -> nextSm l k = -1 := by
     intro l
     induction l with
     | nil => intros; rfl
     | cons y l ih => intro k hk; unfold nextSm; rw [if_pos (hk y (by simp))]; exact ih _ fun x hx => hk x (by simp [hx])
    rw [key _ _ fun x hx => ?_]
    ·omega
    ·obtain ⟨j, hj, rfl⟩ := List.mem_iff_getElem.1 hx
     rw [List.getElem_drop]
     have := h3 (m + 1 + j) (by omega) (by simp at hj; omega)
     rw [itA_get (by simp at hj; omega)] at this
     exact this
   have hcn := cut_next c.1
   have htl : tailP I m = [fine (itA I m).to] := by
    unfold tailP chordsP
    rw [if_neg hs, if_neg (by have := c.1.1; omega)]
    rfl
   have hat : (cutN I m).2.2 = centerP (itA I m) := fold_last _ _ _
   rw [htl] at hcn
   have e : addPt m (rate (itA I m) (buildN I m).speed) (leadI (itA I m)) (cutN I m) (fine (itA I m).to) = ((cutN I m).1 ++ [⟨fine (itA I m).to, lenP (cutN I m).2.2 (fine (itA I m).to), m, rate (itA I m) (buildN I m).speed, leadI (itA I m)⟩], (cutN I m).2.1 + lenP (cutN I m).2.2 (fine (itA I m).to), fine (itA I m).to) :=
    if_neg (by rw [hat]; exact center_ne c.1.2)
   simp only [List.foldl_cons, List.foldl_nil, e] at hcn
   rw [(after h).1, hcn.1, sumLen_snoc, hat]
   simp only
   omega
  ·rw [if_neg c, if_neg c]
theorem right_app {I R : List Itm} (h : ∀ j < (I ++ R).length, ¬ wrongI (itA (I ++ R) j)) : ∀ j < I.length, ¬ wrongI (itA I j) := fun j hj => by
 rw [<- itA_app (R := R) hj]; exact h j (by rw [List.length_append]; omega)
theorem soft_none {I : List Itm} {m : Nat} (h : ¬ (smI (itA I m) /\ (itA I m).blend ≠ 0)) : softK I m = -1 := by
 unfold softK; rw [if_neg h]
theorem std_app {I R : List Itm} (hright : ∀ j < (I ++ R).length, ¬ wrongI (itA (I ++ R) j)) : (∃ l, stdSegs (I ++ R) = stdSegs I ++ l) /\ ((pathP I).segs ≠ [] -> (pathP (I ++ R)).start = (pathP I).start) := by
 have hrI := right_app hright
 cases h : lastNO I I.length with
 | none =>
  have e : stdSegs I = [] := by unfold stdSegs; rw [h]; exact nil_segs h
  refine ⟨⟨_, by rw [e]; rfl⟩, fun hne => absurd (nil_segs h) hne⟩
 | some m =>
  obtain ⟨h1, h2, h3⟩ := kinds_after h
  have hsm := build_app (R := R) hrI h1 h2 m (Nat.le_refl _)
  have hfr := (buildN_ok hrI m (by omega)).frm
  have hlen : (I ++ R).length = I.length + R.length := List.length_append
  have hi := itA_app (R := R) h1
  have e1 : buildN (I ++ R) (m + 1) = bStep (I ++ R) m (buildN (I ++ R) m) := rfl
  have e2 : buildN I (m + 1) = bStep I m (buildN I m) := rfl
  -- what begins the two
  have hbeg : (buildN (I ++ R) (m + 1)).begun = (buildN I (m + 1)).begun /\ (buildN (I ++ R) (m + 1)).start = (buildN I (m + 1)).start := by
   rw [e1, e2]
   unfold bStep
   rw [hi]
   by_cases c : motI (itA I m)
   ·rw [if_pos c, if_pos c]
    refine ⟨rfl, ?_⟩
    simp only [hsm.begun, hsm.start]
   ·rw [if_neg c, if_neg c]
    exact ⟨hsm.begun, hsm.start⟩
  have hpre : ∀ {m' : Nat}, m + 1 <= m' -> ∃ l, (buildN (I ++ R) m').segs = (buildN (I ++ R) (m + 1)).segs ++ l := by
   intro m' hm'
   obtain ⟨l, hl⟩ := build_pre (I ++ R) (m + 1) (m' - (m + 1))
   rw [show m + 1 + (m' - (m + 1)) = m' by omega] at hl
   exact ⟨l, hl⟩
  -- the front, in what is built up to the item behind
  have hcut : smI (itA I m) -> cutN (I ++ R) m = cutN I m := by
   intro c
   unfold cutN
   rw [hi, hsm.frm, hsm.speed, hsm.segs, hsm.len, hsm.begun, hsm.at_, head_app h1 hfr]
  have hfront : ∃ l, (buildN (I ++ R) (m + 1)).segs = stdSegs I ++ l := by
   unfold stdSegs
   rw [h]
   simp only
   by_cases c : smI (itA I m) /\ (itA I m).blend ≠ 0
   ·rw [if_pos c]
    rw [(cut_next (I := I ++ R) (m := m) (by rw [hi]; exact c.1)).1, hcut c.1]
    exact fold_pre _ _
   ·rw [if_neg c]
    have hs : softK (I ++ R) m = softK I m := by rw [soft_none c, soft_none (by rw [hi]; exact c)]
    have := step_app (R := R) h1 hfr hs hsm
    rw [(after h).1, e2, <- this.segs, <- e1]
    exact ⟨[], by simp⟩
  refine ⟨?_, fun hne => ?_⟩
  ·obtain ⟨m', h', hle⟩ := lastNO_some (I := I ++ R) (j := m) (n := (I ++ R).length) (by omega) (by rw [hi]; exact h2)
   have hk := kinds_after h'
   have hall : (∃ l, (pathP (I ++ R)).segs = stdSegs I ++ l) := by
    obtain ⟨l, hl⟩ := hpre (m' := m' + 1) (by omega)
    obtain ⟨l2, hl2⟩ := hfront
    exact ⟨l2 ++ l, by rw [(after h').1, hl, hl2, List.append_assoc]⟩
   have hst : stdSegs (I ++ R) = if smI (itA (I ++ R) m') /\ (itA (I ++ R) m').blend ≠ 0 then (cutN (I ++ R) m').1 else (pathP (I ++ R)).segs := by
    conv => lhs; unfold stdSegs
    rw [h']
   rw [hst]
   by_cases c : smI (itA (I ++ R) m') /\ (itA (I ++ R) m').blend ≠ 0
   ·rw [if_pos c]
    by_cases e : m' = m
    ·subst e
     rw [hcut (by rw [<- hi]; exact c.1)]
     have : stdSegs I = (cutN I m').1 := by
      unfold stdSegs
      rw [h]
      simp only
      rw [hi] at c
      rw [if_pos c]
     exact ⟨[], by rw [this]; simp⟩
    ·obtain ⟨l, hl⟩ := hpre (m' := m') (by omega)
     obtain ⟨l2, hl2⟩ := hfront
     obtain ⟨l3, hl3⟩ := fold_pre (item := m') (feed := rate (itA (I ++ R) m') (buildN (I ++ R) m').speed) (lead := leadI (itA (I ++ R) m')) (headP (I ++ R) m' (buildN (I ++ R) m').frm ++ [centerP (itA (I ++ R) m')]) ((buildN (I ++ R) m').segs, (buildN (I ++ R) m').len, if (buildN (I ++ R) m').begun = true then (buildN (I ++ R) m').at_ else fine (itA (I ++ R) m').fr)
     refine ⟨l2 ++ (l ++ l3), ?_⟩
     unfold cutN
     rw [hl3]
     simp only
     rw [hl, hl2]
     simp only [List.append_assoc]
   ·rw [if_neg c]
    exact hall
  · -- the start
   have hb : (buildN I (m + 1)).begun = true := by
    by_cases hb : (buildN I (m + 1)).begun = true
    ·exact hb
    ·have := (buildN_inv hrI (m + 1) (by omega)).empty (by simpa using hb)
     rw [(after h).1] at hne
     exact absurd this.1 hne
   have hb2 := hbeg.1.trans hb
   obtain ⟨-, g⟩ := begun_steps hb2 ((I ++ R).length - (m + 1))
   rw [show m + 1 + ((I ++ R).length - (m + 1)) = (I ++ R).length by omega] at g
   rw [(after h).2.1, <- hbeg.2, <- g]
   rfl
theorem settled_le {I R : List Itm} (hright : ∀ j < (I ++ R).length, ¬ wrongI (itA (I ++ R) j)) : 0 <= settledP I /\ settledP I <= sumLen (pathP I).segs /\ settledP I <= settledP (I ++ R) := by
 have hrI := right_app hright
 obtain ⟨⟨l, hl⟩, -⟩ := std_app hright
 obtain ⟨l2, hl2⟩ := std_pre I
 obtain ⟨l3, hl3⟩ := std_pre (I ++ R)
 have g1 := segs_ge hrI
 have g2 := segs_ge hright
 rw [settled_sum hrI, settled_sum hright, hl]
 rw [hl2] at g1
 rw [hl3, hl] at g2
 rw [hl2, sum_app, sum_app]
 have n1 := sum_nn (l := stdSegs I) fun g hg => g1 g (by simp [hg])
 have n2 := sum_nn (l := l2) fun g hg => g1 g (by simp [hg])
 have n3 := sum_nn (l := l) fun g hg => g2 g (by simp [hg])
 omega
theorem settled_at {I R : List Itm} (hright : ∀ j < (I ++ R).length, ¬ wrongI (itA (I ++ R) j)) (hne : (pathP I).segs ≠ []) {x : Int} (hx : x <= settledP I) : atP (pathP I) x = atP (pathP (I ++ R)) x := by
 have hrI := right_app hright
 obtain ⟨⟨l, hl⟩, hst⟩ := std_app hright
 obtain ⟨l2, hl2⟩ := std_pre I
 obtain ⟨l3, hl3⟩ := std_pre (I ++ R)
 have g1 := segs_ge hrI
 have g2 := segs_ge hright
 have h0 := (settled_le hright).1
 rw [settled_sum hrI] at hx h0
 unfold atP
 rw [hst hne]
 rw [hl2] at g1 ⊢
 rw [hl3, hl, List.append_assoc] at g2 ⊢
 generalize (pathP I).start = a
 have hP : ∀ g ∈ stdSegs I, 1 <= g.len := fun g hg => g1 g (by simp [hg])
 rw [atL_app hP (by omega), atL_app hP (by omega)]
 by_cases c : max x 0 < sumLen (stdSegs I)
 ·rw [if_pos c, if_pos c]
 ·rw [if_neg c, if_neg c]
  have e : max x 0 - sumLen (stdSegs I) = 0 := by omega
  rw [e, atL_zero fun g hg => g1 g (by simp [hg]), atL_zero fun g hg => g2 g (List.mem_append_right _ hg)]
theorem settled_mk {I R : List Itm} (hright : ∀ j < (I ++ R).length, ¬ wrongI (itA (I ++ R) j)) {i : Nat} (hi : i < I.length) (hat : (mkA I i).at_ < settledP I) : mkA (I ++ R) i = mkA I i := by
 have hrI := right_app hright
 have hle := (settled_le hright).2.1
 have hlen := sum_len hrI
 have h0 : (mkA I i).at_ = (buildN I (i + 1)).len := rfl
 have hnn := (len_mono hrI (i := i + 1) (k := 0) (by omega)).1
 cases h : lastNO I I.length with
 | none =>
  have := nil_segs h
  rw [this] at hle
  have e : sumLen ([] : List Sgm) = 0 := rfl
  omega
 | some m =>
  obtain ⟨h1, h2, h3⟩ := kinds_after h
  have him : i < m := by
   by_cases c : i < m
   ·exact c
   ·exfalso
    have h4 := (len_mono hrI (i := m + 1) (k := i - m) (by omega)).2
    rw [show m + 1 + (i - m) = i + 1 by omega] at h4
    have := (after h).2.2.1
    omega
  have hb := build_app (R := R) hrI h1 h2 (i + 1) him
  have hmo : ∃ x ∈ I.drop (i + 1), motI x := by
   apply Classical.byContradiction
   intro hno
   have hq := quiet (I := I) (i := i + 1) (I.length - (i + 1)) fun j g1 g2 hm => hno ⟨_, drop_mem g1 (by omega), hm⟩
   rw [show i + 1 + (I.length - (i + 1)) = I.length by omega] at hq
   omega
  unfold mkA
  rw [hb.len, itA_app hi]
  have hk : kindK (I ++ R) i = kindK I i := by
   unfold kindK
   rw [itA_app hi, drop_app (by omega), nextSy_app hmo]
  rw [hk]
end Go.Bm
/- the law PathSettled, over the models -/
set_option maxRecDepth 100000
namespace Go.Bm
open Classical

theorem link_front {R : List Itm} : ∀ {J : List Itm} {p : Pt}, Link p (J ++ R) -> Link p J
 | [], _, _ => trivial
 | it :: J, p, h => by
  rw [List.cons_append] at h
  unfold Link at h ⊢
  by_cases c : motI it
  ·rw [if_pos c] at h ⊢; exact ⟨h.1, link_front h.2⟩
  ·rw [if_neg c] at h ⊢; exact link_front h
theorem items_front {A : Nat} {p : Pt} {J R : List Itm} (h : Items A p (J ++ R)) : Items A p J :=
 ⟨link_front h.link, fun it hi => h.made it (List.mem_append_left _ hi)⟩
theorem mark_len (J : List Itm) : (pathP J).marks.length = J.length := by rw [pathP_def]; simp [marks_of]
theorem l_settled19 {MA ML MS MB MI MD MW : List AC -> Option (List AC)} {J R : List Itm} {s k n : Int} (hlen : (J ++ R).length <= 15) (hm : ∀ i < J.length, (mkA J i).at_ < n -> mkA (J ++ R) i = mkA J i) {q : Pt} {segs : List (List AC)} : ∀ (j i : Nat), i + j = J.length ->
  loopC (st_cnclaw25_PathSettled_19 MA ML MS MB MI MD MW) [I s, .view kItm ((J ++ R).map itmR), I k, I n, .view kMrk ((pathP J).marks.map mrkR), I J.length, I i, I q.x, I q.y, I q.z, .view kSgm segs, .view kMrk ((pathP (J ++ R)).marks.map mrkR)] =
   some (2, [I s, .view kItm ((J ++ R).map itmR), I k])
 | 0, i, hi => by
  refine loop_end ?_ (by simp)
  rw [st_cnclaw25_PathSettled_19_eq, bif_neg (by omega)]
 | j + 1, i, hi => by
  have hlt : i < J.length := by omega
  have hl2 : i < (J ++ R).length := by rw [List.length_append]; omega
  have hll : (J ++ R).length = J.length + R.length := List.length_append
  have r1 : nth [] ((pathP J).marks.map mrkR) i = mrkR (mkA J i) := row_mkA hlt
  have r2 : nth [] ((pathP (J ++ R)).marks.map mrkR) i = mrkR (mkA (J ++ R) i) := row_mkA hl2
  have m1 : ((pathP J).marks.map mrkR).length = J.length := by rw [List.length_map, mark_len]
  have m2 : ((pathP (J ++ R)).marks.map mrkR).length = (J ++ R).length := by rw [List.length_map, mark_len]
  have hin : (0 : Int) <= (i : Int) /\ (i : Int) < (J.length : Int) := by omega
  have hin2 : (0 : Int) <= (i : Int) /\ (i : Int) < ((J ++ R).length : Int) := by omega
  have hw : IntKind.i64.wrap ((i : Int) + 1) = ((i + 1 : Nat) : Int) := by rw [wrap_id (by omega)]; omega
  have hst : st_cnclaw25_PathSettled_19 MA ML MS MB MI MD MW [I s, .view kItm ((J ++ R).map itmR), I k, I n, .view kMrk ((pathP J).marks.map mrkR), I J.length, I i, I q.x, I q.y, I q.z, .view kSgm segs, .view kMrk ((pathP (J ++ R)).marks.map mrkR)] =
    some (0, [I s, .view kItm ((J ++ R).map itmR), I k, I n, .view kMrk ((pathP J).marks.map mrkR), I J.length, I (i + 1 : Nat), I q.x, I q.y, I q.z, .view kSgm segs, .view kMrk ((pathP (J ++ R)).marks.map mrkR)]) := by
   simp only [mrkR] at r1 r2
   rw [st_cnclaw25_PathSettled_19_eq]
   simp only [go_sem, Int.toNat_natCast, r1, r2, m1, m2, if_pos hin, hw]
   rw [if_pos (by omega)]
   by_cases c : (mkA J i).at_ < n
   ·have hq := hm i hlt c
    rw [if_pos c, if_neg (by omega), if_pos hin2, hq, if_neg (by simp)]
   ·rw [if_neg c]
  rw [loop_more hst]
  exact l_settled19 hlen hm j (i + 1) (by omega)
theorem step_settled {MA ML MS MB MI MD MW : List AC -> Option (List AC)} {N : List AC -> Option (Nat × List AC)} {items J : List Itm} {pa pb : Pth} {k : Nat} {s n nj la x : Int} (hlen : items.length <= 15) (hk : k <= items.length) (hI : J = items.take k)
  (hBI : MB [.view kItm (J.map itmR)] = some (pthR pa ++ [I 0])) (hBJ : MB [.view kItm (items.map itmR)] = some (pthR pb ++ [I 0]))
  (hSI : MS [.view kItm (J.map itmR)] = some [I n]) (hSJ : MS [.view kItm (items.map itmR)] = some [I nj]) (hL : ML (pthR pa) = some [I la]) (h1 : 0 <= n) (h2 : n <= la) (h3 : n <= nj) (hla : la <= 1000000000000000000)
  (hD : MD [I s, I (n + 1)] = some [I x])
  (hA : 0 < k -> 0 < pa.segs.length -> ∀ y, y = n \/ y = x \/ y = mx (n - 1) 0 -> ∃ q : Pt, MA (pthR pa ++ [I y]) = some (ptR q) /\ MA (pthR pb ++ [I y]) = some (ptR q))
  (hN : N ([I s, .view kItm (items.map itmR), I k, I n, .view kMrk (pa.marks.map mrkR), I pa.marks.length, I 0] ++ pthR pb) = some (2, [I s, .view kItm (items.map itmR), I k])) :
  st_cnclaw25_PathSettled_5 MA ML MS MB MI MD MW N [I s, .view kItm (items.map itmR), I k] = some (0, [I s, .view kItm (items.map itmR), I (k + 1 : Nat)]) := by
 have hw : IntKind.i64.wrap ((k : Int) + 1) = ((k + 1 : Nat) : Int) := by rw [wrap_id (by omega)]; omega
 have hwn : IntKind.i64.wrap (n + 1) = n + 1 := wrap_id (by omega)
 have hwm : IntKind.i64.wrap (n - 1) = n - 1 := wrap_id (by omega)
 have htk : List.take k (items.map itmR) = J.map itmR := by rw [hI, List.map_take]
 have hin : (0 : Int) <= (k : Int) /\ (k : Int) <= (items.length : Int) := by omega
 simp only [pthR, List.cons_append, List.nil_append] at hBI hBJ hL hA hN
 rw [st_cnclaw25_PathSettled_5_eq]
 by_cases c : 0 < k /\ 0 < pa.segs.length
 ·obtain ⟨q1, a1, b1⟩ := hA c.1 c.2 n (.inl rfl)
  obtain ⟨q2, a2, b2⟩ := hA c.1 c.2 x (.inr (.inl rfl))
  obtain ⟨q3, a3, b3⟩ := hA c.1 c.2 (mx (n - 1) 0) (.inr (.inr rfl))
  simp only [ptR] at a1 b1 a2 b2 a3 b3
  have c1 : (k : Int) > 0 := by omega
  have c2 : (pa.segs.length : Int) > 0 := by omega
  simp only [go_sem, List.length_map, Int.toNat_natCast, htk, if_pos hin, hBI, hBJ, hSI, hSJ, hL, hwn, hwm, hD, hw, if_pos c1, if_pos c2, a1, b1, a2, b2, a3, b3, hN]
  rw [if_pos (by omega), if_neg (by omega), if_neg (by omega), if_neg (by omega), if_neg (by omega), if_neg (by omega)]
  simp
 ·have hd : ∀ {α : Type} {X Y : α}, (if (k : Int) > 0 then (if (pa.segs.length : Int) > 0 then X else Y) else Y) = Y := by
   intro α X Y
   by_cases c1 : (k : Int) > 0
   ·rw [if_pos c1, if_neg (by omega)]
   ·rw [if_neg c1]
  simp only [go_sem, List.length_map, Int.toNat_natCast, htk, if_pos hin, hBI, hBJ, hSI, hSJ, hL, hwn, hwm, hD, hw, hd, hN]
  rw [if_pos (by omega), if_neg (by omega), if_neg (by omega), if_neg (by omega), if_neg (by omega), if_neg (by omega)]
  simp
theorem l_settled5 {MA ML MS MB MI MD MW : List AC -> Option (List AC)} {items : List Itm} {p : Pt} {s : Int} (hs : i64 s) (hit : Items 40004 p items) (hlen : items.length <= 15)
  (hB : ∀ {l : List Itm}, l.length <= 15 -> MB [.view kItm (l.map itmR)] = if checkP l = 0 then some (pthR (pathP l) ++ [I 0]) else some [I 0, I 0, I 0, .view kSgm [], .view kMrk [], I (checkP l)])
  (hS : ∀ {l : List Itm}, l.length <= 15 -> MS [.view kItm (l.map itmR)] = some [I (if checkP l = 0 then settledP l else 0)])
  (hL : ∀ {q : Pth}, SegOK q.segs -> ML (pthR q) = some [I (sumLen q.segs)]) (hD : ∀ {a b : Int}, i64 a -> 1 <= b /\ b <= 4611686018427387904 -> MD [I a, I b] = some [I (a % b)])
  (hA : ∀ {q : Pth}, GoodPath q -> ∀ {x : Int}, i64 x -> MA (pthR q ++ [I x]) = some (ptR (atP q x))) : ∀ (j k : Nat), k + j = items.length + 1 ->
  loopC (st_cnclaw25_PathSettled_5 MA ML MS MB MI MD MW (loopC (st_cnclaw25_PathSettled_19 MA ML MS MB MI MD MW))) [I s, .view kItm (items.map itmR), I k] = some (2, [])
 | 0, k, hk => by
  refine loop_end ?_ (by simp)
  rw [st_cnclaw25_PathSettled_5_eq]
  simp only [go_sem, List.length_map]
  rw [if_neg (by omega)]
 | j + 1, k, hk => by
  obtain ⟨J, hJ⟩ : ∃ J, items.take k = J := ⟨_, rfl⟩
  have hsp : J ++ items.drop k = items := by rw [<- hJ, List.take_append_drop]
  have hjl : J.length <= 15 := by rw [<- hJ, List.length_take]; omega
  have hiJ : Items 40004 p J := items_front (R := items.drop k) (by rw [hsp]; exact hit)
  have hc := items_check (by omega) hit (by omega)
  have hcJ := items_check (by omega) hiJ (by omega)
  have hright := (check_right hc).2
  have hg := goodP_of hlen hc
  have hgJ := goodP_of hjl hcJ
  have hb := hB hlen
  have hbJ := hB hjl
  have hs1 := hS hlen
  have hsJ := hS hjl
  rw [if_pos hc] at hb hs1
  rw [if_pos hcJ] at hbJ hsJ
  have hr2 : ∀ j < (J ++ items.drop k).length, ¬ wrongI (itA (J ++ items.drop k) j) := by rw [hsp]; exact hright
  have hle := settled_le hr2
  have hat := fun hne x hx => settled_at hr2 (x := x) hne hx
  have hmk := fun i hi hx => settled_mk hr2 (i := i) hi hx
  have h19 := l_settled19 (MA := MA) (ML := ML) (MS := MS) (MB := MB) (MI := MI) (MD := MD) (MW := MW) (J := J) (R := items.drop k) (s := s) (k := k) (n := settledP J) (by rw [hsp]; exact hlen) hmk (q := (pathP items).start) (segs := (pathP items).segs.map sgmR) J.length 0 (by omega)
  rw [hsp] at hle hat h19
  have hsum := sum_bd hgJ.ok.seg
  have hct := hgJ.count
  have hm1 : 0 <= s % (settledP J + 1) /\ s % (settledP J + 1) < settledP J + 1 := ⟨Int.emod_nonneg _ (by omega), Int.emod_lt_of_pos _ (by omega)⟩
  have hst := step_settled (MA := MA) (ML := ML) (MS := MS) (MB := MB) (MI := MI) (MD := MD) (MW := MW) (N := loopC (st_cnclaw25_PathSettled_19 MA ML MS MB MI MD MW)) (items := items) (J := J) (pa := pathP J) (pb := pathP items) (k := k) (s := s) (n := settledP J) (nj := settledP items) (la := sumLen (pathP J).segs) (x := s % (settledP J + 1)) hlen (by omega) hJ.symm
   hbJ hb hsJ hs1 (hL hgJ.ok) hle.1 hle.2.1 hle.2.2 (by omega) (hD hs (by omega)) (fun _ hp y hy => by
    have hne : (pathP J).segs ≠ [] := List.length_pos_iff.1 hp
    have hmx : mx (settledP J - 1) 0 = settledP J - 1 \/ mx (settledP J - 1) 0 = 0 := by unfold mx; split <;> omega
    have hyb : 0 <= y + 1 /\ y <= settledP J := by rcases hy with rfl | rfl | rfl <;> omega
    have hyi : i64 y := by unfold i64; omega
    exact ⟨_, hA hgJ hyi, by rw [hat hne y hyb.2]; exact hA hg hyi⟩) (by rw [mark_len]; exact h19)
  rw [loop_more hst]
  exact l_settled5 hs hit hlen hB hS hL hD hA j (k + 1) (by omega)
theorem a_PathSettled {MA ML MS MB MI MD MW : List AC -> Option (List AC)} {N19 N5 : List AC -> Option (Nat × List AC)} {l : List (List AC)} {most m s : Int} {items : List Itm} (hW : MW [] = some [B true]) (hm : 0 <= m /\ m <= 8) (hD : MD [I most, I 9] = some [I m])
  (hI : MI [.view kInts l, I (1 + m), B false] = some [.view kItm (items.map itmR)]) (hN : N5 [I s, .view kItm (items.map itmR), I 0] = some (2, [])) :
  mf_cnclaw25_PathSettled MA ML MS MB MI MD MW N19 N5 [.view kInts l, I most, I s] = some [B true] := by
 have hw : IntKind.i64.wrap (1 + m) = 1 + m := wrap_id (by omega)
 rw [mf_cnclaw25_PathSettled_eq]
 simp only [go_sem, hW, hD, hw, hI, hN]
 simp
theorem s_PathSettled {l : List (List AC)} (hl : Src l) {most s : Int} (hm : i64 most) (hs : i64 s) : m_cnclaw25_PathSettled [.view kInts l, I most, I s] = some [B true] := by
 have h9 : 0 <= most % 9 /\ most % 9 < 9 := ⟨Int.emod_nonneg _ (by omega), Int.emod_lt_of_pos _ (by omega)⟩
 obtain ⟨p, items, h1, h2, h3, -⟩ := s_Items hl (most := 1 + most % 9) (by omega) false
 have hlen : items.length <= 15 := by omega
 have h2 := items_mono h2 (show 4084 <= 40004 by omega)
 exact a_PathSettled m_cnclaw25_awake_eq ⟨h9.1, by omega⟩ (s_cncmill_Mod hm (by omega)) h1 (l_settled5 hs h2 hlen s_path_Build s_path_Settled s_path_Length (fun ha hb => s_cncmill_Mod ha ⟨by omega, hb.2⟩) (fun hq => s_path_At hq) (items.length + 1) 0 (by omega))
end Go.Bm
