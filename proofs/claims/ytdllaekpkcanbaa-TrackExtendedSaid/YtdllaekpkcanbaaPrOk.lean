/- laid together -/
import Derived.Test.YtdllaekpkcanbaaPrGd
import Derived.Test.YtdllaekpkcanbaaMy1
import Derived.Test.YtdllaekpkcanbaaPrCw
import Derived.Test.YtdllaekpkcanbaaPrH
set_option linter.unusedVariables false
set_option linter.unusedSimpArgs false
/- the law PathVertices, over the models -/
set_option maxRecDepth 100000
namespace Go.Bm
open Classical

end Go.Bm
/- the marks of a path, and the law PathMarks, over the models -/
set_option maxRecDepth 100000
namespace Go.Bm
open Classical

theorem seg_ge {items : List Itm} (hright : ∀ j < items.length, ¬ Qel (itA items j)) {i : Nat} (hi : i <= items.length) : ∀ g ∈ (Qal items i).segs, 1 <= g.len := by
 have h := buildN_inv hright i hi
 by_cases hb : (Qal items i).begun = true
 ·exact fun g hg => (good_len (h.begun hb).1 (h.begun hb).2.1 g hg).1
 ·rw [(h.empty (by simpa using hb)).1]; simp
end Go.Bm
/- what is settled of a path does not change by what follows -/
set_option maxRecDepth 100000
namespace Go.Bm
open Classical

theorem itA_app {I R : List Itm} {j : Nat} (h : j < I.length) : itA (I ++ R) j = itA I j := by
 unfold itA
 simp [List.getD_eq_getElem?_getD, List.getElem?_append_left h]
theorem nextSm_app {R : List Itm} : ∀ {L : List Itm} {c : Nat}, (∃ x ∈ L, x.kind ≠ 10) -> nextSm (L ++ R) c = nextSm L c
 | [], _, h => by obtain ⟨x, h, -⟩ := h; cases h
 | y :: L, c, h => by
  rw [List.cons_append]
  unfold nextSm
  by_cases c1 : y.kind = 10
  ·rw [if_pos c1, if_pos c1]
   obtain ⟨x, hx, hk⟩ := h
   refine nextSm_app ⟨x, ?_, hk⟩
   rcases List.mem_cons.1 hx with rfl | hx
   ·exact absurd c1 hk
   ·exact hx
  ·rw [if_neg c1, if_neg c1]
theorem drop_app {I R : List Itm} {i : Nat} (h : i <= I.length) : (I ++ R).drop i = I.drop i ++ R := by
 rw [List.drop_append_of_le_length h]
theorem drop_mem {I : List Itm} {i j : Nat} (hi : i <= j) (hj : j < I.length) : itA I j ∈ I.drop i := by
 rw [itA_get hj, List.mem_iff_getElem]
 refine ⟨j - i, by simp; omega, ?_⟩
 rw [List.getElem_drop]
 congr 1; omega
theorem soft_app {I R : List Itm} {i m : Nat} (hi : i < m) (hm : m < I.length) (hk : (itA I m).kind ≠ 10) : Qfs (I ++ R) i = Qfs I i := by
 unfold Qfs
 rw [itA_app (show i < I.length by omega), drop_app (by omega), nextSm_app ⟨_, drop_mem (i := i + 1) (by omega) hm, hk⟩]
structure SameB (s t : BSt) : Prop where
 segs : s.segs = t.segs
 len : s.len = t.len
 speed : s.speed = t.speed
 frm : s.frm = t.frm
 begun : s.begun = t.begun
 start : s.start = t.start
 at_ : s.at_ = t.at_
theorem joined_app {I R : List Itm} {i k : Nat} (hi : i < I.length) (hk : k < I.length) : Qnx (I ++ R) i k = Qnx I i k := by
 unfold Qnx
 rw [itA_app hi, itA_app hk]
theorem soft_lt {I : List Itm} {i : Nat} (h : 0 <= Qfs I i) : (Qfs I i).toNat < I.length := by
 rcases softK_spec I i with h1 | ⟨-, -, k, h1, -, h2, -⟩
 ·omega
 ·rw [h1]; simpa using h2
theorem head_app {I R : List Itm} {i : Nat} {frm : Int} (hi : i < I.length) (hf : frmOK I i frm) : headP (I ++ R) i frm = headP I i frm := by
 unfold headP
 rcases hf with rfl | ⟨f, rfl, hf, -⟩
 ·rw [if_neg (by omega), if_neg (by omega), itA_app hi]
 ·rw [if_pos (by omega), if_pos (by omega), joined_app (by simpa using hf) hi]
theorem tail_app {I R : List Itm} {i : Nat} (hi : i < I.length) (hs : Qfs (I ++ R) i = Qfs I i) : tailP (I ++ R) i = tailP I i := by
 unfold tailP
 rw [hs]
 by_cases c : 0 <= Qfs I i
 ·rw [if_pos c, if_pos c, joined_app hi (soft_lt c)]
 ·rw [if_neg c, if_neg c, itA_app hi]
theorem points_app {I R : List Itm} {i : Nat} {frm : Int} (hi : i < I.length) (hf : frmOK I i frm) (hs : Qfs (I ++ R) i = Qfs I i) : Qei (I ++ R) i frm = Qei I i frm := by
 unfold Qei
 rw [head_app hi hf, tail_app hi hs, itA_app hi]
theorem step_app {I R : List Itm} {i : Nat} {s t : BSt} (hi : i < I.length) (hf : frmOK I i s.frm) (hs : Qfs (I ++ R) i = Qfs I i) (h : SameB t s) : SameB (bStep (I ++ R) i t) (bStep I i s) := by
 obtain ⟨h1, h2, h3, h4, h5, h6, h7⟩ := h
 unfold bStep motS
 rw [itA_app hi, h4, points_app hi hf hs, hs, h1, h2, h3, h5, h6, h7]
 by_cases c : motI (itA I i)
 ·rw [if_pos c, if_pos c]; exact ⟨rfl, rfl, rfl, rfl, rfl, rfl, rfl⟩
 ·rw [if_neg c, if_neg c]; exact ⟨rfl, rfl, rfl, rfl, rfl, rfl, rfl⟩
theorem build_app {I R : List Itm} {m : Nat} (hright : ∀ j < I.length, ¬ Qel (itA I j)) (hm : m < I.length) (hk : (itA I m).kind ≠ 10) : ∀ i, i <= m -> SameB (Qal (I ++ R) i) (Qal I i)
 | 0, _ => ⟨rfl, rfl, rfl, rfl, rfl, rfl, rfl⟩
 | i + 1, hi => step_app (by omega) (buildN_ok hright i (by omega)).frm (soft_app (by omega) hm hk) (build_app hright hm hk i (by omega))
theorem quiet {I : List Itm} {i : Nat} : ∀ k, (∀ j, i <= j -> j < i + k -> ¬ motI (itA I j)) -> (Qal I (i + k)).segs = (Qal I i).segs /\ (Qal I (i + k)).len = (Qal I i).len /\ (Qal I (i + k)).begun = (Qal I i).begun /\ (Qal I (i + k)).start = (Qal I i).start
 | 0, _ => ⟨rfl, rfl, rfl, rfl⟩
 | k + 1, h => by
  obtain ⟨h1, h2, h3, h4⟩ := quiet k fun j a b => h j a (by omega)
  have hm := h (i + k) (by omega) (by omega)
  have e : Qal I (i + (k + 1)) = bStep I (i + k) (Qal I (i + k)) := rfl
  rw [e]
  unfold bStep
  rw [if_neg hm]
  exact ⟨h1, h2, h3, h4⟩
noncomputable def cutN (I : List Itm) (m : Nat) : List Sgm × Int × Pt :=
 (headP I m (Qal I m).frm ++ [Qbz (itA I m)]).foldl (Qeu m (rate (itA I m) (Qal I m).speed) (leadI (itA I m))) ((Qal I m).segs, (Qal I m).len, if (Qal I m).begun = true then (Qal I m).at_ else fine (itA I m).fr)
noncomputable def Qhf (I : List Itm) : List Sgm :=
 match lastNO I I.length with
 | some m => if smI (itA I m) /\ (itA I m).blend ≠ 0 then (cutN I m).1 else (Qdf I).segs
 | none => (Qdf I).segs
theorem sm_mot {it : Itm} (h : smI it) : motI it := ⟨by have := h.1; omega, by have := h.1; omega⟩
theorem cut_next {I : List Itm} {m : Nat} (h : smI (itA I m)) : (Qal I (m + 1)).segs = ((tailP I m).foldl (Qeu m (rate (itA I m) (Qal I m).speed) (leadI (itA I m))) (cutN I m)).1 /\ (Qal I (m + 1)).len = ((tailP I m).foldl (Qeu m (rate (itA I m) (Qal I m).speed) (leadI (itA I m))) (cutN I m)).2.1 := by
 have e : Qal I (m + 1) = bStep I m (Qal I m) := rfl
 rw [e]
 unfold bStep motS Qei cutN
 rw [if_pos (sm_mot h), if_pos h, List.foldl_append]
 exact ⟨rfl, rfl⟩
theorem kinds_after {I : List Itm} {m : Nat} (h : lastNO I I.length = some m) : m < I.length /\ (itA I m).kind ≠ 10 /\ ∀ j, m < j -> j < I.length -> (itA I j).kind = 10 := lastNO_spec h
theorem not_mot {it : Itm} (h : it.kind = 10) : ¬ motI it := fun c => by have := c.2; omega
theorem after {I : List Itm} {m : Nat} (h : lastNO I I.length = some m) : (Qdf I).segs = (Qal I (m + 1)).segs /\ (Qdf I).start = (Qal I (m + 1)).start /\ (Qal I I.length).len = (Qal I (m + 1)).len /\ (Qal I I.length).begun = (Qal I (m + 1)).begun := by
 obtain ⟨h1, h2, h3⟩ := kinds_after h
 obtain ⟨a, b, c, d⟩ := quiet (I := I) (i := m + 1) (I.length - (m + 1)) fun j g1 g2 => not_mot (h3 j (by omega) (by omega))
 rw [show m + 1 + (I.length - (m + 1)) = I.length by omega] at a b c d
 exact ⟨a, d, b, c⟩
theorem std_pre (I : List Itm) : ∃ l, (Qdf I).segs = Qhf I ++ l := by
 unfold Qhf
 split
 ·rename_i m h
  split
  ·rename_i c
   obtain ⟨l, hl⟩ := fold_pre (item := m) (feed := rate (itA I m) (Qal I m).speed) (lead := leadI (itA I m)) (tailP I m) (cutN I m)
   exact ⟨l, by rw [(after h).1, (cut_next c.1).1, hl]⟩
  ·exact ⟨[], by simp⟩
 ·exact ⟨[], by simp⟩
theorem lastNO_none {I : List Itm} : ∀ {n : Nat}, lastNO I n = none -> ∀ j < n, (itA I j).kind = 10
 | 0, _, j, hj => by omega
 | n + 1, h, j, hj => by
  unfold lastNO at h
  split at h
  ·rename_i c
   by_cases e : j = n
   ·rw [e]; exact c
   ·exact lastNO_none h j (by omega)
  ·cases h
theorem lastNO_some {I : List Itm} {j : Nat} : ∀ {n : Nat}, j < n -> (itA I j).kind ≠ 10 -> ∃ m, lastNO I n = some m /\ j <= m
 | 0, h, _ => by omega
 | n + 1, h, hk => by
  unfold lastNO
  by_cases c : (itA I n).kind = 10
  ·rw [if_pos c]
   have : j ≠ n := fun e => hk (by rw [e]; exact c)
   exact lastNO_some (by omega) hk
  ·rw [if_neg c]; exact ⟨n, rfl, by omega⟩
theorem segs_ge {I : List Itm} (hright : ∀ j < I.length, ¬ Qel (itA I j)) : ∀ g ∈ (Qdf I).segs, 1 <= g.len := seg_ge hright (Nat.le_refl _)
theorem nil_segs {I : List Itm} (h : lastNO I I.length = none) : (Qdf I).segs = [] := by
 have := (quiet (I := I) (i := 0) I.length fun j _ g => not_mot (lastNO_none h j (by omega))).1
 rw [Nat.zero_add] at this
 exact this
theorem settled_sum {I : List Itm} (hright : ∀ j < I.length, ¬ Qel (itA I j)) : Qea I = Qay (Qhf I) := by
 unfold Qea Qhf
 cases h : lastNO I I.length with
 | none => rfl
 | some m =>
  simp only
  by_cases c : smI (itA I m) /\ (itA I m).blend ≠ 0
  ·rw [if_pos c, if_pos c]
   obtain ⟨h1, h2, h3⟩ := kinds_after h
   have hs : ¬ 0 <= Qfs I m := by
    unfold Qfs
    rw [if_pos c]
    have key : ∀ (l : List Itm) (k : Nat), (∀ x ∈ l, x.kind = 10) -> nextSm l k = -1 := by
     intro l
     induction l with
     | nil => intros; rfl
     | cons y l ih => intro k hk; unfold nextSm; rw [if_pos (hk y (by simp))]; exact ih _ fun x hx => hk x (by simp [hx])
    rw [key _ _ fun x hx => ?_]
    ·omega
    ·obtain ⟨j, hj, rfl⟩ := List.mem_iff_getElem.1 hx
     rw [List.getElem_drop]
     have := h3 (m + 1 + j) (by omega) (by simp at hj; omega)
     rw [itA_get (by simp at hj; omega)] at this
     exact this
   have hcn := cut_next c.1
   have htl : tailP I m = [fine (itA I m).to] := by
    unfold tailP Qgo
    rw [if_neg hs, if_neg (by have := c.1.1; omega)]
    rfl
   have hat : (cutN I m).2.2 = Qbz (itA I m) := fold_last _ _ _
   rw [htl] at hcn
   have e : Qeu m (rate (itA I m) (Qal I m).speed) (leadI (itA I m)) (cutN I m) (fine (itA I m).to) = ((cutN I m).1 ++ [⟨fine (itA I m).to, lenP (cutN I m).2.2 (fine (itA I m).to), m, rate (itA I m) (Qal I m).speed, leadI (itA I m)⟩], (cutN I m).2.1 + lenP (cutN I m).2.2 (fine (itA I m).to), fine (itA I m).to) :=
    if_neg (by rw [hat]; exact center_ne c.1.2)
   simp only [List.foldl_cons, List.foldl_nil, e] at hcn
   rw [(after h).1, hcn.1, sumLen_snoc, hat]
   simp only
   omega
  ·rw [if_neg c, if_neg c]
theorem right_app {I R : List Itm} (h : ∀ j < (I ++ R).length, ¬ Qel (itA (I ++ R) j)) : ∀ j < I.length, ¬ Qel (itA I j) := fun j hj => by
 rw [<- itA_app (R := R) hj]; exact h j (by rw [List.length_append]; omega)
theorem soft_none {I : List Itm} {m : Nat} (h : ¬ (smI (itA I m) /\ (itA I m).blend ≠ 0)) : Qfs I m = -1 := by
 unfold Qfs; rw [if_neg h]
theorem std_app {I R : List Itm} (hright : ∀ j < (I ++ R).length, ¬ Qel (itA (I ++ R) j)) : (∃ l, Qhf (I ++ R) = Qhf I ++ l) /\ ((Qdf I).segs ≠ [] -> (Qdf (I ++ R)).start = (Qdf I).start) := by
 have hrI := right_app hright
 cases h : lastNO I I.length with
 | none =>
  have e : Qhf I = [] := by unfold Qhf; rw [h]; exact nil_segs h
  refine ⟨⟨_, by rw [e]; rfl⟩, fun hne => absurd (nil_segs h) hne⟩
 | some m =>
  obtain ⟨h1, h2, h3⟩ := kinds_after h
  have hsm := build_app (R := R) hrI h1 h2 m (Nat.le_refl _)
  have hfr := (buildN_ok hrI m (by omega)).frm
  have hlen : (I ++ R).length = I.length + R.length := List.length_append
  have hi := itA_app (R := R) h1
  have e1 : Qal (I ++ R) (m + 1) = bStep (I ++ R) m (Qal (I ++ R) m) := rfl
  have e2 : Qal I (m + 1) = bStep I m (Qal I m) := rfl
  -- what begins the two
  have hbeg : (Qal (I ++ R) (m + 1)).begun = (Qal I (m + 1)).begun /\ (Qal (I ++ R) (m + 1)).start = (Qal I (m + 1)).start := by
   rw [e1, e2]
   unfold bStep
   rw [hi]
   by_cases c : motI (itA I m)
   ·rw [if_pos c, if_pos c]
    refine ⟨rfl, ?_⟩
    simp only [hsm.begun, hsm.start]
   ·rw [if_neg c, if_neg c]
    exact ⟨hsm.begun, hsm.start⟩
  have hpre : ∀ {m' : Nat}, m + 1 <= m' -> ∃ l, (Qal (I ++ R) m').segs = (Qal (I ++ R) (m + 1)).segs ++ l := by
   intro m' hm'
   obtain ⟨l, hl⟩ := build_pre (I ++ R) (m + 1) (m' - (m + 1))
   rw [show m + 1 + (m' - (m + 1)) = m' by omega] at hl
   exact ⟨l, hl⟩
  -- the front, in what is built up to the item behind
  have hcut : smI (itA I m) -> cutN (I ++ R) m = cutN I m := by
   intro c
   unfold cutN
   rw [hi, hsm.frm, hsm.speed, hsm.segs, hsm.len, hsm.begun, hsm.at_, head_app h1 hfr]
  have hfront : ∃ l, (Qal (I ++ R) (m + 1)).segs = Qhf I ++ l := by
   unfold Qhf
   rw [h]
   simp only
   by_cases c : smI (itA I m) /\ (itA I m).blend ≠ 0
   ·rw [if_pos c]
    rw [(cut_next (I := I ++ R) (m := m) (by rw [hi]; exact c.1)).1, hcut c.1]
    exact fold_pre _ _
   ·rw [if_neg c]
    have hs : Qfs (I ++ R) m = Qfs I m := by rw [soft_none c, soft_none (by rw [hi]; exact c)]
    have := step_app (R := R) h1 hfr hs hsm
    rw [(after h).1, e2, <- this.segs, <- e1]
    exact ⟨[], by simp⟩
  refine ⟨?_, fun hne => ?_⟩
  ·obtain ⟨m', h', hle⟩ := lastNO_some (I := I ++ R) (j := m) (n := (I ++ R).length) (by omega) (by rw [hi]; exact h2)
   have hk := kinds_after h'
   have hall : (∃ l, (Qdf (I ++ R)).segs = Qhf I ++ l) := by
    obtain ⟨l, hl⟩ := hpre (m' := m' + 1) (by omega)
    obtain ⟨l2, hl2⟩ := hfront
    exact ⟨l2 ++ l, by rw [(after h').1, hl, hl2, List.append_assoc]⟩
   have hst : Qhf (I ++ R) = if smI (itA (I ++ R) m') /\ (itA (I ++ R) m').blend ≠ 0 then (cutN (I ++ R) m').1 else (Qdf (I ++ R)).segs := by
    conv => lhs; unfold Qhf
    rw [h']
   rw [hst]
   by_cases c : smI (itA (I ++ R) m') /\ (itA (I ++ R) m').blend ≠ 0
   ·rw [if_pos c]
    by_cases e : m' = m
    ·subst e
     rw [hcut (by rw [<- hi]; exact c.1)]
     have : Qhf I = (cutN I m').1 := by
      unfold Qhf
      rw [h]
      simp only
      rw [hi] at c
      rw [if_pos c]
     exact ⟨[], by rw [this]; simp⟩
    ·obtain ⟨l, hl⟩ := hpre (m' := m') (by omega)
     obtain ⟨l2, hl2⟩ := hfront
     obtain ⟨l3, hl3⟩ := fold_pre (item := m') (feed := rate (itA (I ++ R) m') (Qal (I ++ R) m').speed) (lead := leadI (itA (I ++ R) m')) (headP (I ++ R) m' (Qal (I ++ R) m').frm ++ [Qbz (itA (I ++ R) m')]) ((Qal (I ++ R) m').segs, (Qal (I ++ R) m').len, if (Qal (I ++ R) m').begun = true then (Qal (I ++ R) m').at_ else fine (itA (I ++ R) m').fr)
     refine ⟨l2 ++ (l ++ l3), ?_⟩
     unfold cutN
     rw [hl3]
     simp only
     rw [hl, hl2]
     simp only [List.append_assoc]
   ·rw [if_neg c]
    exact hall
  · -- the start
   have hb : (Qal I (m + 1)).begun = true := by
    by_cases hb : (Qal I (m + 1)).begun = true
    ·exact hb
    ·have := (buildN_inv hrI (m + 1) (by omega)).empty (by simpa using hb)
     rw [(after h).1] at hne
     exact absurd this.1 hne
   have hb2 := hbeg.1.trans hb
   obtain ⟨-, g⟩ := begun_steps hb2 ((I ++ R).length - (m + 1))
   rw [show m + 1 + ((I ++ R).length - (m + 1)) = (I ++ R).length by omega] at g
   rw [(after h).2.1, <- hbeg.2, <- g]
   rfl
theorem settled_le {I R : List Itm} (hright : ∀ j < (I ++ R).length, ¬ Qel (itA (I ++ R) j)) : 0 <= Qea I /\ Qea I <= Qay (Qdf I).segs /\ Qea I <= Qea (I ++ R) := by
 have hrI := right_app hright
 obtain ⟨⟨l, hl⟩, -⟩ := std_app hright
 obtain ⟨l2, hl2⟩ := std_pre I
 obtain ⟨l3, hl3⟩ := std_pre (I ++ R)
 have g1 := segs_ge hrI
 have g2 := segs_ge hright
 rw [settled_sum hrI, settled_sum hright, hl]
 rw [hl2] at g1
 rw [hl3, hl] at g2
 rw [hl2, sum_app, sum_app]
 have n1 := sum_nn (l := Qhf I) fun g hg => g1 g (by simp [hg])
 have n2 := sum_nn (l := l2) fun g hg => g1 g (by simp [hg])
 have n3 := sum_nn (l := l) fun g hg => g2 g (by simp [hg])
 omega
theorem settled_at {I R : List Itm} (hright : ∀ j < (I ++ R).length, ¬ Qel (itA (I ++ R) j)) (hne : (Qdf I).segs ≠ []) {x : Int} (hx : x <= Qea I) : atP (Qdf I) x = atP (Qdf (I ++ R)) x := by
 have hrI := right_app hright
 obtain ⟨⟨l, hl⟩, hst⟩ := std_app hright
 obtain ⟨l2, hl2⟩ := std_pre I
 obtain ⟨l3, hl3⟩ := std_pre (I ++ R)
 have g1 := segs_ge hrI
 have g2 := segs_ge hright
 have h0 := (settled_le hright).1
 rw [settled_sum hrI] at hx h0
 unfold atP
 rw [hst hne]
 rw [hl2] at g1 ⊢
 rw [hl3, hl, List.append_assoc] at g2 ⊢
 generalize (Qdf I).start = a
 have hP : ∀ g ∈ Qhf I, 1 <= g.len := fun g hg => g1 g (by simp [hg])
 rw [atL_app hP (by omega), atL_app hP (by omega)]
 by_cases c : max x 0 < Qay (Qhf I)
 ·rw [if_pos c, if_pos c]
 ·rw [if_neg c, if_neg c]
  have e : max x 0 - Qay (Qhf I) = 0 := by omega
  rw [e, atL_zero fun g hg => g1 g (by simp [hg]), atL_zero fun g hg => g2 g (List.mem_append_right _ hg)]
end Go.Bm
/- the law PathSettled, over the models -/
set_option maxRecDepth 100000
namespace Go.Bm
open Classical

theorem link_front {R : List Itm} : ∀ {J : List Itm} {p : Pt}, Link p (J ++ R) -> Link p J
 | [], _, _ => trivial
 | it :: J, p, h => by
  rw [List.cons_append] at h
  unfold Link at h ⊢
  by_cases c : motI it
  ·rw [if_pos c] at h ⊢; exact ⟨h.1, link_front h.2⟩
  ·rw [if_neg c] at h ⊢; exact link_front h
theorem items_front {A : Nat} {p : Pt} {J R : List Itm} (h : Items A p (J ++ R)) : Items A p J :=
 ⟨link_front h.link, fun it hi => h.made it (List.mem_append_left _ hi)⟩
end Go.Bm
/- the law TrackExtended, over the models -/
set_option maxRecDepth 100000
namespace Go.Bm
open Classical

theorem plL_le {x : Ax3} {Q : Int -> Pt -> Prop} : ∀ {a s : Int} {d : Pt} {l : List Pce} {u : Int}, chain x 1 Q a s d l -> l ≠ [] -> u <= Qkf a l -> plL l u <= endQ s l
 | _, _, _, [], _, _, h, _ => absurd rfl h
 | a, s, d, c :: l, u, h, _, hu => by
  obtain ⟨h1, h2, h3, h4, h5⟩ := h
  have hm : c.move = 1 \/ c.move = 0 := by rcases h4 with h4 | h4 <;> simp [h4.1]
  have he := end_ahead (.inl rfl) h5
  unfold plL
  by_cases c0 : u <= c.at_ + c.units
  ·rw [if_pos c0]
   unfold endQ
   generalize endQ (s + c.move * c.units) l = E at *
   rcases hm with hm | hm <;> rw [hm] at he ⊢ <;> omega
  ·rw [if_neg c0]
   have hne : l ≠ [] := by
    intro e
    subst e
    simp only [Qkf] at hu
    omega
   exact plL_le h5 hne hu
theorem leg_take {p q : Pth} {P l m : List Sgm} (hp : p.segs = P ++ l) (hq : q.segs = P ++ m) (hs : q.start = p.start) (x : Ax3) (hi : Int) (t0 : Trk × Pt) : ∀ j, j <= P.length -> legN p x 1 0 hi t0 j = legN q x 1 0 hi t0 j
 | 0, _ => rfl
 | j + 1, hj => by
  have ih := leg_take hp hq hs x hi t0 j (by omega)
  rw [legN, legN, ih]
  have e : ∀ n, idxT n 1 j = j := fun n => by unfold idxT; rw [if_neg (by omega)]
  rw [e, e]
  have tk : ∀ i, i <= P.length -> p.segs.take i = q.segs.take i := fun i hi => by rw [hp, hq, List.take_append_of_le_length hi, List.take_append_of_le_length hi]
  have p1 : posL p.segs j = posL q.segs j := by unfold posL; rw [tk j (by omega)]
  have p2 : posL p.segs (j + 1) = posL q.segs (j + 1) := by unfold posL; rw [tk (j + 1) (by omega)]
  have v1 : vertL p.start p.segs j = vertL q.start q.segs j := by unfold vertL; rw [tk j (by omega), hs]
  have s1 : sgA p.segs j = sgA q.segs j := by
   unfold sgA
   rw [hp, hq]
   simp [List.getD_eq_getElem?_getD, List.getElem?_append_left (show j < P.length by omega)]
  unfold segT
  rw [p1, p2, v1, s1]
theorem leg_rest {p : Pth} {P l : List Sgm} (hp : p.segs = P ++ l) (hg : ∀ g ∈ p.segs, 1 <= g.len) (x : Ax3) {hi : Int} (hh : hi <= Qay P) (t0 : Trk × Pt) : ∀ k, legN p x 1 0 hi t0 (P.length + k) = legN p x 1 0 hi t0 P.length
 | 0 => rfl
 | k + 1 => by
  have ih := leg_rest hp hg x hh t0 k
  show segT p x 1 0 hi (idxT p.segs.length 1 (P.length + k)) (legN p x 1 0 hi t0 (P.length + k)) = _
  rw [ih]
  unfold segT idxT
  rw [if_neg (show ¬ (1 : Int) < 0 by omega)]
  have e : posL p.segs (P.length + k) = Qay P + Qay (l.take k) := by
   unfold posL
   rw [hp, List.take_length_add_append, sum_app]
  have := sum_nn (l := l.take k) fun g h => hg g (by rw [hp]; exact List.mem_append_right _ (List.mem_of_mem_take h))
  rw [if_neg (by omega)]
theorem leg_front {p q : Pth} {P l m : List Sgm} (hp : p.segs = P ++ l) (hq : q.segs = P ++ m) (hs : q.start = p.start) (gp : ∀ g ∈ p.segs, 1 <= g.len) (gq : ∀ g ∈ q.segs, 1 <= g.len) (x : Ax3) (d : Pt) {n : Int} (h0 : 0 <= n) (hn : n <= Qay P) :
  legP p x d 0 n = legP q x d 0 n := by
 have np := sum_nn (l := l) fun g h => gp g (by rw [hp]; exact List.mem_append_right _ h)
 have nq := sum_nn (l := m) fun g h => gq g (by rw [hq]; exact List.mem_append_right _ h)
 have sp : Qay p.segs = Qay P + Qay l := by rw [hp, sum_app]
 have sq : Qay q.segs = Qay P + Qay m := by rw [hq, sum_app]
 have c1 : Qct 0 (Qay p.segs) = 0 := by unfold Qct; omega
 have c2 : Qct 0 (Qay q.segs) = 0 := by unfold Qct; omega
 have c3 : Qct n (Qay p.segs) = n := by unfold Qct; omega
 have c4 : Qct n (Qay q.segs) = n := by unfold Qct; omega
 unfold legP
 simp only [c1, c2, c3, c4]
 rw [if_neg (by omega), Int.min_eq_left h0, Int.max_eq_right h0]
 have lp : p.segs.length = P.length + l.length := by rw [hp, List.length_append]
 have lq : q.segs.length = P.length + m.length := by rw [hq, List.length_append]
 rw [lp, lq, leg_rest hp gp x hn, leg_rest hq gq x hn, leg_take hp hq hs x n _ _ (Nat.le_refl _)]
theorem place_le {p : Pth} {x : Ax3} {d : Pt} {n u : Int} (hx : Ax3OK x) (hp : GoodPath p) (hn : 0 <= n /\ n <= Qay p.segs) : Qdg (legP p x d 0 n) u <= n := by
 obtain ⟨d', h1, h2, -⟩ := legP_chain (d := d) (a := 0) (b := n) (Q := fun _ _ => True) hx hp (fun _ _ _ _ _ _ _ _ => trivial)
 have ht := legP_TQ d 0 n hx hp
 have c1 : Qct 0 (Qay p.segs) = 0 := by unfold Qct; omega
 have c2 : Qct n (Qay p.segs) = n := by unfold Qct; omega
 have hmv : mvP p 0 n = 1 := by unfold mvP; rw [c1, c2, if_neg (by omega)]
 rw [hmv, c2] at h1
 by_cases hne : (legP p x d 0 n).pieces = []
 ·unfold Qdg
  rw [if_pos hne, h2, c1]; exact hn.1
 ·have h := plL_le h1.ch hne (u := clT (legP p x d 0 n) u) (by rw [h1.len]; exact (clT_bd ht u).2)
  rw [h1.s] at h
  rw [place_plL ht u hne]
  exact h
theorem extended_facts {J R : List Itm} (hright : ∀ j < (J ++ R).length, ¬ Qel (itA (J ++ R) j)) (hgJ : GoodPath (Qdf J)) (hg : GoodPath (Qdf (J ++ R))) (hne : (Qdf J).segs ≠ []) {x : Ax3} {d : Pt} (hx : Ax3M x) (hd : okD d) {u : Int} :
  (legP (Qdf J) x d 0 (Qea J)).length <= (legP (Qdf (J ++ R)) x d 0 (Qay (Qdf (J ++ R)).segs)).length /\ ((0 <= u /\ u <= (legP (Qdf J) x d 0 (Qea J)).length) ->
   Qdg (legP (Qdf J) x d 0 (Qea J)) u = Qdg (legP (Qdf (J ++ R)) x d 0 (Qay (Qdf (J ++ R)).segs)) u /\
   Qki (Qdf J) x (legP (Qdf J) x d 0 (Qea J)) u = Qki (Qdf (J ++ R)) x (legP (Qdf (J ++ R)) x d 0 (Qay (Qdf (J ++ R)).segs)) u) := by
 obtain ⟨⟨l, hl⟩, hst⟩ := std_app hright
 obtain ⟨l2, hl2⟩ := std_pre J
 obtain ⟨l3, hl3⟩ := std_pre (J ++ R)
 have hrJ := right_app hright
 have hle := settled_le hright
 have hs := settled_sum hrJ
 rw [hl, List.append_assoc] at hl3
 have hall : Qea J <= Qay (Qdf (J ++ R)).segs := by
  have g2 := segs_ge hright
  rw [hl3] at g2 ⊢
  rw [sum_app]
  have := sum_nn (l := l ++ l3) fun g h => g2 g (List.mem_append_right _ h)
  omega
 have hle2 : legP (Qdf J) x d 0 (Qea J) = legP (Qdf (J ++ R)) x d 0 (Qea J) :=
  leg_front hl2 hl3 (hst hne) (segs_ge hrJ) (segs_ge hright) x d hle.1 (by rw [<- hs]; exact Int.le_refl _)
 have hbeg := begin_facts (u := u) hg hx hd (a := 0) (b := Qay (Qdf (J ++ R)).segs) (c := Qea J) (by omega) (by omega) (.inl ⟨hle.1, hall⟩)
 refine ⟨by rw [hle2]; exact hbeg.1, fun hu => ?_⟩
 obtain ⟨f1, f2⟩ := hbeg.2 (by rw [<- hle2]; exact hu)
 refine ⟨by rw [hle2]; exact f1, ?_⟩
 rw [<- f2, <- hle2]
 have hpl := place_le (d := d) (u := u) hx.ok hgJ (n := Qea J) ⟨hle.1, hle.2.1⟩
 have hat := settled_at hright hne hpl
 unfold Qki nomP
 rw [hat]
theorem a_Extended {MMo MPl ML MT MS MB MA MI MD MW : List AC -> Option (List AC)} {l ax : List (List AC)} {most k u m kk v n : Int} {items J : List Itm} {x : Ax3} {pa pb : Pth} {S T : Trk} (hW : MW [] = some [B true]) (hlen : items.length <= 15) (hm : 0 <= m /\ m <= 6) (hD1 : MD [I most, I 7] = some [I m])
  (hI : MI [.view Qac l, I (1 + m), B false] = some [.view kItm (items.map itmR)]) (hA : MA [.view Qac ax] = some (ax3R x)) (hD2 : MD [I k, I (items.length + 1)] = some [I kk]) (hk : 0 <= kk /\ kk <= items.length) (hJ : J = items.take kk.toNat)
  (hBJ : MB [.view kItm (J.map itmR)] = some (pthR pa ++ [I 0])) (hB : MB [.view kItm (items.map itmR)] = some (pthR pb ++ [I 0])) (hS : MS [.view kItm (J.map itmR)] = some [I n]) (hz : pa.segs = [] -> n = 0)
  (hL : ML (pthR pb) = some [I (Qay pb.segs)]) (hT1 : MT (pthR pa ++ ax3R x ++ [I 1, I 1, I 1, I 0, I n]) = some (trkR S)) (hT2 : MT (pthR pb ++ ax3R x ++ [I 1, I 1, I 1, I 0, I (Qay pb.segs)]) = some (trkR T))
  (hsl : 0 <= S.length /\ S.length <= 900000000000000) (hD3 : MD [I u, I (S.length + 1)] = some [I v]) (hP1 : MPl (trkR S ++ [I v]) = some [I (Qdg S v)]) (hP2 : MPl (trkR T ++ [I v]) = some [I (Qdg T v)])
  (hM1 : MMo (pthR pa ++ ax3R x ++ trkR S ++ [I v]) = some (ptR (Qki pa x S v))) (hM2 : MMo (pthR pb ++ ax3R x ++ trkR T ++ [I v]) = some (ptR (Qki pb x T v)))
  (e1 : pa.segs ≠ [] -> S.length <= T.length) (e2 : pa.segs ≠ [] -> Qdg S v = Qdg T v) (e3 : pa.segs ≠ [] -> Qki pa x S v = Qki pb x T v) :
  Qgi MMo MPl ML MT MS MB MA MI MD MW [.view Qac l, .view Qac ax, I most, I k, I u] = some [B true] := by
 have hw : IntKind.i64.wrap (1 + m) = 1 + m := Qab (by omega)
 have hw2 : IntKind.i64.wrap ((items.length : Int) + 1) = (items.length : Int) + 1 := Qab (by omega)
 have hw3 : IntKind.i64.wrap (S.length + 1) = S.length + 1 := Qab (by omega)
 have htk : List.take kk.toNat (items.map itmR) = J.map itmR := by rw [hJ, List.map_take]
 rw [mf_cnclaw29_TrackExtended_eq]
 simp only [trkR, ax3R, pthR, List.cons_append, List.nil_append] at *
 by_cases hne : pa.segs = []
 ·have hz := hz hne
  have c0 : (pa.segs.length : Int) = 0 := by rw [hne]; rfl
  simp only [go_sem, hW, hD1, hw, hI, hA, List.length_map, hw2, hD2, htk, hBJ, hB, hS, if_pos hk, if_pos c0, hz]
  simp
 ·have e1 := e1 hne
  have e2 := e2 hne
  have e3 := e3 hne
  have hne0 : ¬ (pa.segs.length : Int) = 0 := by have := List.length_pos_iff.2 hne; omega
  simp only [go_sem, hW, hD1, hw, hI, hA, List.length_map, hw2, hD2, htk, hBJ, hB, hS, if_pos hk, if_neg hne0, hL, hT1, hT2, hw3, hD3, hP1, hP2, hM1, hM2, e2, e3]
  simp [e1]
theorem s_TrackExtended {l ax : List (List AC)} (hl : Src l) (hax : Src ax) {most k u : Int} (h2 : i64 most) (h3 : i64 k) (h4 : i64 u) :
  Qmb [.view Qac l, .view Qac ax, I most, I k, I u] = some [B true] := by
 have h7 : 0 <= most % 7 /\ most % 7 < 7 := ⟨Int.emod_nonneg _ (by omega), Int.emod_lt_of_pos _ (by omega)⟩
 obtain ⟨p, items, g1, g2, g3, -⟩ := s_Items hl (most := 1 + most % 7) (by omega) false
 have hlen : items.length <= 15 := by omega
 have g2 := items_mono g2 (show 4084 <= 40004 by omega)
 obtain ⟨x, hA, hx⟩ := s_Axes hax
 have k0 := Int.emod_nonneg k (show (items.length : Int) + 1 ≠ 0 by omega)
 have k1 := Int.emod_lt_of_pos k (show 0 < (items.length : Int) + 1 by omega)
 have m2 := s_cncmill_Mod h3 (n := (items.length : Int) + 1) (by omega)
 generalize k % ((items.length : Int) + 1) = kk at *
 obtain ⟨J, hJ⟩ : ∃ J, items.take kk.toNat = J := ⟨_, rfl⟩
 obtain ⟨R, hR⟩ : ∃ R, items.drop kk.toNat = R := ⟨_, rfl⟩
 have hsp : items = J ++ R := by rw [<- hJ, <- hR, List.take_append_drop]
 have hjl : J.length <= 15 := by rw [<- hJ, List.length_take]; omega
 have hiJ : Items 40004 p J := items_front (R := R) (by rw [<- hsp]; exact g2)
 have hc := items_check (by omega) g2 (by omega)
 have hcJ := items_check (by omega) hiJ (by omega)
 have hright := (check_right hc).2
 have hg := goodP_of hlen hc
 have hgJ := goodP_of hjl hcJ
 have hb := s_path_Build hlen
 have hbJ := s_path_Build hjl
 have hsJ := s_path_Settled hjl
 rw [if_pos hc] at hb
 rw [if_pos hcJ] at hbJ hsJ
 have hd : okD ⟨1, 1, 1⟩ := ⟨.inl rfl, .inl rfl, .inl rfl⟩
 have hr2 : ∀ j < (J ++ R).length, ¬ Qel (itA (J ++ R) j) := by rw [<- hsp]; exact hright
 have hle := settled_le hr2
 have ht := (legP_TQ ⟨1, 1, 1⟩ 0 (Qea J) hx.ok hgJ).len
 have v0 := Int.emod_nonneg u (show (legP (Qdf J) x ⟨1, 1, 1⟩ 0 (Qea J)).length + 1 ≠ 0 by omega)
 have v1 := Int.emod_lt_of_pos u (show 0 < (legP (Qdf J) x ⟨1, 1, 1⟩ 0 (Qea J)).length + 1 by omega)
 have hf := fun hne => extended_facts (R := R) hr2 hgJ (by rw [<- hsp]; exact hg) hne hx hd (u := u % ((legP (Qdf J) x ⟨1, 1, 1⟩ 0 (Qea J)).length + 1))
 rw [<- hsp] at hf
 refine a_Extended m_cnclaw29_awake_eq hlen ⟨h7.1, by omega⟩ (s_cncmill_Mod h2 (by omega)) g1 hA m2 (by omega) hJ.symm hbJ hb hsJ (fun hn => ?_) (s_path_Length hg.ok) (s_track_Leg hgJ hx.ok (d := ⟨1, 1, 1⟩)) (s_track_Leg hg hx.ok (d := ⟨1, 1, 1⟩)) ht (s_cncmill_Mod h4 (by omega)) (s_Place (legP_TQ _ _ _ hx.ok hgJ) _) (s_Place (legP_TQ _ _ _ hx.ok hg) _)
  (s_Motors hgJ hx (legP_TH _ _ _ hx.ok hgJ) _) (s_Motors hg hx (legP_TH _ _ _ hx.ok hg) _) (fun hne => (hf hne).1) (fun hne => ((hf hne).2 ⟨v0, by omega⟩).1) (fun hne => ((hf hne).2 ⟨v0, by omega⟩).2)
 have h1 := hle.2.1
 rw [hn] at h1
 have h2 : Qay ([] : List Sgm) = 0 := rfl
 omega
end Go.Bm
/- what a law's arguments are known to be -/
set_option maxRecDepth 100000
namespace Go.Bm

theorem okR_int {r : List AC} (h : okR Qac r) : i64 (Qaq (nth .dead r 0)) := by
 match r, h with
 | [], h => exact h.elim
 | a :: _, h => exact okC_int h.1
theorem okR_src {r : List AC} (h : okR [Kd.sl Qac] r) : Src (rowsOf (nth .dead r 0)) := by
 match r, h with
 | [], h => exact h.elim
 | a :: _, h =>
  have h1 := h.1
  unfold okC at h1
  refine ⟨?_, fun c hc => okR_int (h1.2 c hc).1⟩
  have h2 := h1.1
  simp only [maxLen] at h2
  show (rowsOf a).length <= _
  omega
end Go.Bm
