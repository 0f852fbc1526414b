/- laid together -/
import Derived.Test.YtdllaekpkcanbaaGreatPrBd
import Derived.Test.YtdllaekpkcanbaaGreatMx5
set_option linter.unusedVariables false
set_option linter.unusedSimpArgs false
/- the program's points of a motion are the reference's; which items it refuses -/
set_option maxRecDepth 100000
namespace Go.Bm
open Classical

theorem s_path_motion (k : Int) : Qcp [I k] = some [B (decide (1 <= k /\ k <= 6))] := by
 unfold Qcp
 rw [mf_path_motion_eq]
 by_cases h : 1 <= k
 ·rw [Qgh (show k >= 1 from h)]
  by_cases h2 : k <= 6
  ·rw [decide_eq_true h2, decide_eq_true ⟨h, h2⟩]
  ·rw [decide_eq_false h2, decide_eq_false fun h3 => h2 h3.2]
 ·rw [Qcs (show ¬ k >= 1 from h), decide_eq_false fun h3 => h h3.1]
theorem s_path_smooth (it : Itm) : Qc5 (itmR it) = some [B (decide (smI it))] := by
 unfold Qc5
 rw [mf_path_smooth_eq]
 by_cases h : it.kind = 2
 ·rw [Qiv (by simp [h])]
  congr 2
  by_cases h2 : it.fr = it.to
  ·have h3 := pt_ext.1 h2
   rw [decide_eq_false (fun hs : smI it => hs.2 h2)]
   simp [h3.1, h3.2.1, h3.2.2]
  ·rw [decide_eq_true (show smI it from ⟨h, h2⟩)]
   have h3 : ¬ (it.fr.x = it.to.x /\ it.fr.y = it.to.y /\ it.fr.z = it.to.z) := fun h3 => h2 (pt_ext.2 h3)
   simp only [B, AC.bool.injEq, Bool.not_eq_true', Bool.and_true]
   by_cases a : it.fr.x = it.to.x <;> by_cases b : it.fr.y = it.to.y <;> by_cases c : it.fr.z = it.to.z <;> simp [a, b, c] at h3 ⊢
 ·rw [Qhy (by simp [h]), decide_eq_false (fun hs : smI it => h hs.1)]
theorem s_path_middle {it : Itm} (h1 : bd 1048576 it.fr) (h2 : bd 1048576 it.to) : Qep (itmR it) = some (ptR (Qca it)) := by
 obtain ⟨a1, a2, a3⟩ := h1
 obtain ⟨b1, b2, b3⟩ := h2
 unfold Qep
 rw [mf_path_middle_eq, Qab (x := it.fr.x + it.to.x) (by omega), Qab (x := (it.fr.x + it.to.x) * 8) (by omega), Qab (x := it.fr.y + it.to.y) (by omega), Qab (x := (it.fr.y + it.to.y) * 8) (by omega), Qab (x := it.fr.z + it.to.z) (by omega), Qab (x := (it.fr.z + it.to.z) * 8) (by omega)]
 rfl
theorem s_path_scaled {p : Pt} (h : bd 100000000 p) : m_path_scaled [I p.x, I p.y, I p.z] = some (ptR (fine p)) := by
 unfold m_path_scaled
 rw [mf_path_scaled_eq]
 obtain ⟨h1, h2, h3⟩ := h
 rw [Qab (by omega), Qab (by omega), Qab (by omega)]
 rfl
theorem s_path_geared (it : Itm) : Qfu (itmR it) = some [B (decide (syI it))] := by
 unfold Qfu
 rw [mf_path_geared_eq]
 by_cases h5 : it.kind = 5
 ·rw [Qiv (by simp [h5]), decide_eq_true (show syI it from .inl h5)]
 ·rw [Qhy (by simp [h5])]
  by_cases h6 : it.kind = 6
  ·rw [decide_eq_true (show syI it from .inr h6)]; simp [h6]
  ·rw [decide_eq_false (show ¬ syI it from fun h => h.elim h5 h6)]; simp [h6]

theorem a_path_check {MV MM : List AC -> Option (List AC)} {it : Itm} (hM : MM [I it.kind] = some [B (decide (1 <= it.kind /\ it.kind <= 6))]) (hV : ∃ v, MV (itmR it) = some [B v] /\ (v = true ↔ Qhf it)) :
  mf_path_check MV MM (itmR it) = some [I (if Qf4 it then 1 else 0)] := by
 obtain ⟨v, hv, hvv⟩ := hV
 have hr : ∀ {x : Int}, (Qf4 it -> x = 1) -> (¬ Qf4 it -> x = 0) -> some [I x] = some [I (if Qf4 it then 1 else 0)] := by
  intro x h1 h2
  by_cases c : Qf4 it
  ·rw [if_pos c, h1 c]
  ·rw [if_neg c, h2 c]
 rw [mf_path_check_eq]
 simp only [go_sem, hM, hv]
 unfold Qf4 motI at hr ⊢
 have one : ∀ {P : Prop}, P -> (P -> (1 : Int) = 1) /\ (¬ P -> (1 : Int) = 0) := fun h => ⟨fun _ => rfl, fun g => absurd h g⟩
 have zero : ∀ {P : Prop}, ¬ P -> (P -> (0 : Int) = 1) /\ (¬ P -> (0 : Int) = 0) := fun h => ⟨fun g => absurd g h, fun _ => rfl⟩
 by_cases c1 : it.kind < 1
 ·rw [if_pos c1]; exact hr (fun _ => rfl) fun g => absurd (.inl c1) g
 rw [if_neg c1]
 by_cases c2 : it.kind > 14
 ·rw [if_pos c2]; exact hr (fun _ => rfl) fun g => absurd (.inr (.inl c2)) g
 rw [if_neg c2]
 by_cases c3 : 1 <= it.kind /\ it.kind <= 6
 ·simp only [if_pos c3]
  have hk8 : it.kind ≠ 8 := by omega
  simp only [if_neg hk8]
  by_cases c4 : Qhf it
  ·rw [if_neg (by simp [hvv.2 c4])]
   by_cases c5 : it.blend < 0
   ·rw [if_pos c5]; exact hr (fun _ => rfl) fun g => absurd (.inr (.inr (.inl ⟨c3, .inr (.inr (.inl c5))⟩))) g
   rw [if_neg c5]
   by_cases c6 : it.blend > 1000
   ·rw [if_pos c6]; exact hr (fun _ => rfl) fun g => absurd (.inr (.inr (.inl ⟨c3, .inr (.inr (.inr c6))⟩))) g
   rw [if_neg c6]
   by_cases c7 : it.kind = 1
   ·rw [if_neg (show ¬ it.kind ≠ 1 by omega)]
    refine hr (fun g => ?_) fun _ => rfl
    rcases g with g | g | ⟨-, g | g | g | g⟩ | g
    ·omega
    ·omega
    ·exact absurd c4 g
    ·omega
    ·omega
    ·omega
    ·omega
   ·rw [if_pos c7]
    by_cases c8 : it.feed < 1
    ·rw [if_pos c8]; exact hr (fun _ => rfl) fun g => absurd (.inr (.inr (.inl ⟨c3, .inr (.inl ⟨c7, .inl c8⟩)⟩))) g
    rw [if_neg c8]
    by_cases c9 : it.feed > 60000000
    ·rw [if_pos c9]; exact hr (fun _ => rfl) fun g => absurd (.inr (.inr (.inl ⟨c3, .inr (.inl ⟨c7, .inr c9⟩)⟩))) g
    rw [if_neg c9]
    refine hr (fun g => ?_) fun _ => rfl
    rcases g with g | g | ⟨-, g | g | g | g⟩ | g
    ·omega
    ·omega
    ·exact absurd c4 g
    ·omega
    ·omega
    ·omega
    ·omega
  ·rw [if_pos (fun h => c4 (hvv.1 h))]
   exact hr (fun _ => rfl) fun g => absurd (.inr (.inr (.inl ⟨c3, .inl c4⟩))) g
 ·simp only [if_neg c3]
  by_cases c4 : it.kind = 8
  ·rw [if_pos c4]
   by_cases d1 : it.n < 3
   ·rw [if_pos d1]; exact hr (fun _ => rfl) fun g => absurd (.inr (.inr (.inr ⟨c3, c4, .inl d1⟩))) g
   rw [if_neg d1]
   by_cases d2 : it.n > 5
   ·rw [if_pos d2]; exact hr (fun _ => rfl) fun g => absurd (.inr (.inr (.inr ⟨c3, c4, .inr (.inl d2)⟩))) g
   rw [if_neg d2]
   by_cases d3 : it.speed < 0
   ·rw [if_pos d3]; exact hr (fun _ => rfl) fun g => absurd (.inr (.inr (.inr ⟨c3, c4, .inr (.inr (.inl d3))⟩))) g
   rw [if_neg d3]
   by_cases d4 : it.speed > 30000
   ·rw [if_pos d4]; exact hr (fun _ => rfl) fun g => absurd (.inr (.inr (.inr ⟨c3, c4, .inr (.inr (.inr d4))⟩))) g
   rw [if_neg d4]
   refine hr (fun g => ?_) fun _ => rfl
   rcases g with g | g | ⟨g, -⟩ | ⟨-, -, g⟩
   ·omega
   ·omega
   ·exact absurd g c3
   ·omega
  ·rw [if_neg c4]
   refine hr (fun g => ?_) fun _ => rfl
   rcases g with g | g | ⟨g, -⟩ | ⟨-, g, -⟩
   ·omega
   ·omega
   ·exact absurd g c3
   ·omega
theorem s_path_check (it : Itm) : Qit (itmR it) = some [I (if Qf4 it then 1 else 0)] := a_path_check (s_path_motion _) (s_curve_Valid it)

def nextF : List Itm -> Nat -> Nat
 | [], k => k
 | it :: l, k => if it.kind = 10 then nextF l (k + 1) else k
def nextN (items : List Itm) (i : Nat) : Nat := nextF (items.drop (i + 1)) (i + 1)
theorem nextF_spec : ∀ (l : List Itm) (k : Nat), k <= nextF l k /\ nextF l k <= k + l.length
 | [], k => by simp [nextF]
 | it :: l, k => by
  unfold nextF
  split
  ·have := nextF_spec l (k + 1); simp; omega
  ·simp
theorem nextSm_F : ∀ (l : List Itm) (k : Nat), nextSm l k = if nextF l k - k < l.length /\ smI (l.getD (nextF l k - k) it0) then (nextF l k : Int) else -1
 | [], k => by simp [nextSm]
 | it :: l, k => by
  have hs := nextF_spec l (k + 1)
  by_cases h10 : it.kind = 10
  ·have e1 : nextSm (it :: l) k = nextSm l (k + 1) := by rw [nextSm, if_pos h10]
   have e2 : nextF (it :: l) k = nextF l (k + 1) := by rw [nextF, if_pos h10]
   rw [e1, e2, nextSm_F l (k + 1)]
   have e3 : nextF l (k + 1) - k = (nextF l (k + 1) - (k + 1)) + 1 := by omega
   rw [e3, List.getD_cons_succ]
   by_cases c : nextF l (k + 1) - (k + 1) < l.length
   ·have c2 : nextF l (k + 1) - (k + 1) + 1 < (it :: l).length := by simp; omega
    by_cases c3 : smI (l.getD (nextF l (k + 1) - (k + 1)) it0)
    ·rw [if_pos ⟨c, c3⟩, if_pos ⟨c2, c3⟩]
    ·rw [if_neg (fun g => c3 g.2), if_neg (fun g => c3 g.2)]
   ·rw [if_neg (fun g => c g.1), if_neg (fun g => c (by have := g.1; simp at this; omega))]
  ·have e1 : nextSm (it :: l) k = if smI it then (k : Int) else -1 := by rw [nextSm, if_neg h10]
   have e2 : nextF (it :: l) k = k := by rw [nextF, if_neg h10]
   rw [e1, e2, Nat.sub_self, List.getD_cons_zero]
   by_cases c : smI it
   ·rw [if_pos c, if_pos ⟨by simp, c⟩]
   ·rw [if_neg c, if_neg (fun g => c g.2)]
theorem l_next {items : List Itm} (hl : items.length <= 1000000) : ∀ (k i : Nat), i + k = items.length ->
  Qbl st_path_next_2 [.view kItm (items.map itmR), I i] = some (1, [I (nextF (items.drop i) i)])
 | 0, i, hi => by
  refine Qbn ?_ (by simp)
  rw [st_path_next_2_eq]
  simp only [go_sem, List.length_map]
  rw [if_neg (by omega), List.drop_of_length_le (by omega)]
  rfl
 | k + 1, i, hi => by
  have hlt : i < items.length := by omega
  have hr := Qgb hlt
  rw [drop_itA hlt]
  have hst : st_path_next_2 [.view kItm (items.map itmR), I i] = if (itA items i).kind = 10 then some (0, [.view kItm (items.map itmR), I (i + 1 : Nat)]) else some (1, [I i]) := by
   rw [st_path_next_2_eq]
   have hin : (0 : Int) <= (i : Int) /\ (i : Int) < (items.length : Int) := by omega
   simp only [go_sem, List.length_map, Int.toNat_natCast, hr, if_pos hin]
   rw [if_pos (by omega), Qab (by omega)]
   rfl
  unfold nextF
  by_cases h10 : (itA items i).kind = 10
  ·rw [if_pos h10] at hst ⊢
   rw [Qbk hst]
   exact l_next hl k (i + 1) (by omega)
  ·rw [if_neg h10] at hst ⊢
   exact Qbn hst (by simp)
theorem s_path_next {items : List Itm} (hl : items.length <= 1000000) {i : Nat} (hi : i < items.length) : Qe8 [.view kItm (items.map itmR), I i] = some [I (nextN items i)] := by
 show mf_path_next (Qbl st_path_next_2) _ = _
 have h := l_next hl (items.length - (i + 1)) (i + 1) (by omega)
 rw [mf_path_next_eq, Qab (by omega), show (i : Int) + 1 = ((i + 1 : Nat) : Int) by omega, h]
 rfl
theorem softK_next {items : List Itm} {i : Nat} : softK items i = if smI (itA items i) /\ (itA items i).blend ≠ 0 /\ nextN items i < items.length /\ smI (itA items (nextN items i)) then (nextN items i : Int) else -1 := by
 unfold softK
 by_cases h : smI (itA items i) /\ (itA items i).blend ≠ 0
 ·rw [if_pos h, nextSm_F]
  have hs := nextF_spec (items.drop (i + 1)) (i + 1)
  rw [List.length_drop] at hs
  have e : (items.drop (i + 1)).getD (nextF (items.drop (i + 1)) (i + 1) - (i + 1)) it0 = itA items (nextN items i) := by
   unfold itA
   rw [List.getD_eq_getElem?_getD, List.getElem?_drop, List.getD_eq_getElem?_getD]
   have : i + 1 + (nextF (items.drop (i + 1)) (i + 1) - (i + 1)) = nextN items i := by unfold nextN; omega
   rw [this]
  rw [e, List.length_drop]
  have e2 : nextF (items.drop (i + 1)) (i + 1) = nextN items i := rfl
  rw [e2] at hs ⊢
  by_cases c : nextN items i < items.length /\ smI (itA items (nextN items i))
  ·rw [if_pos ⟨by omega, c.2⟩, if_pos ⟨h.1, h.2, c⟩]
  ·rw [if_neg (fun g => c ⟨by have := g.1; omega, g.2⟩), if_neg (fun g => c g.2.2)]
 ·rw [if_neg h, if_neg (fun g => h ⟨g.1, g.2.1⟩)]
theorem a_path_soft {MS MN : List AC -> Option (List AC)} {items : List Itm} (hS : ∀ it, MS (itmR it) = some [B (decide (smI it))]) {i : Nat} (hi : i < items.length) (hN : MN [.view kItm (items.map itmR), I i] = some [I (nextN items i)]) :
  mf_path_soft MS MN [.view kItm (items.map itmR), I i] = some [B (decide (0 <= softK items i))] := by
 have hr := Qgb hi
 have hs := hS (itA items i)
 rw [mf_path_soft_eq, softK_next]
 simp only [itmR] at hs
 have hin : (0 : Int) <= (i : Int) /\ (i : Int) < (items.length : Int) := by omega
 simp only [go_sem, List.length_map, Int.toNat_natCast, hr, hs, hN, if_pos hin]
 by_cases h1 : smI (itA items i)
 case neg => rw [if_neg h1, if_neg (fun g => h1 g.1)]; simp
 rw [if_pos h1]
 by_cases h2 : (itA items i).blend = 0
 ·rw [if_neg (by simp [h2]), if_neg (fun g => g.2.1 h2)]; simp
 rw [if_pos h2]
 by_cases h3 : nextN items i < items.length
 ·have hr2 := Qgb h3
  have hs2 := hS (itA items (nextN items i))
  simp only [itmR] at hs2
  have hin2 : (0 : Int) <= (nextN items i : Int) /\ (nextN items i : Int) < (items.length : Int) := by omega
  rw [if_pos (by omega), if_pos hin2]
  simp only [go_sem, hr2, hs2]
  by_cases h4 : smI (itA items (nextN items i))
  ·rw [decide_eq_true h4, if_pos ⟨h1, h2, h3, h4⟩, decide_eq_true (by omega)]
  ·rw [decide_eq_false h4, if_neg (fun g => h4 g.2.2.2)]; simp
 ·rw [if_neg (by omega), if_neg (fun g => h3 g.2.2.1)]; simp
theorem s_path_soft {items : List Itm} (hl : items.length <= 1000000) {i : Nat} (hi : i < items.length) : Qgs [.view kItm (items.map itmR), I i] = some [B (decide (0 <= softK items i))] :=
 a_path_soft s_path_smooth hi (s_path_next hl hi)
theorem soft_next {items : List Itm} {i : Nat} (h : 0 <= softK items i) : softK items i = nextN items i := by
 rw [softK_next] at h ⊢
 split at h
 ·rename_i c; rw [if_pos c]
 ·omega

theorem corner_odd {a c b : Pt} {tol : Int} (ha : bd B24 a) (hc : bd B24 c) (hb : bd B24 b) : (cornerP a c b tol).length % 2 = 1 := by
 unfold cornerP
 by_cases h : reachP a c b tol = 0
 ·rw [if_pos h]; rfl
 ·rw [if_neg h]
  obtain ⟨h1, h2, h3, h4, h5, -⟩ := reach_spec h
  obtain ⟨m1, m2⟩ := mn_le (lenP a c) (lenP c b)
  generalize reachP a c b tol = d at *
  have k1 : bd B24 (towP c a d) := tow_betw hc ha h1 (by omega)
  have k2 : bd B24 (towP c b d) := tow_betw hc hb h2 (by rw [lenP_comm b c]; omega)
  have k3 := (s_cncref24_Pieces k1 hc k2).2
  generalize piecesP (towP c a d) c (towP c b d) = n at *
  rw [List.length_map, List.length_range]
  rcases k3 with rfl | rfl | rfl | rfl | rfl | rfl <;> rfl
theorem a_path_corner {MC MF MM : List AC -> Option (List AC)} {a b : Itm} {l : List Pt} (hbl : 0 <= a.blend /\ a.blend <= 1000) (hl : 1 <= l.length /\ l.length <= 65) (hodd : l.length % 2 = 1)
  (c1 : MM (itmR a) = some (ptR (Qca a))) (c2 : MM (itmR b) = some (ptR (Qca b))) (f1 : MF [I a.to.x, I a.to.y, I a.to.z] = some (ptR (fine a.to)))
  (hC : MC (ptR (Qca a) ++ ptR (fine a.to) ++ ptR (Qca b) ++ [I (a.blend * 16)]) = some [.view kPt (l.map ptR)]) :
  mf_path_corner MC MF MM (itmR a ++ itmR b) = some [.view kPt ((l.take (l.length / 2 + 1)).map ptR), .view kPt ((l.drop (l.length / 2)).map ptR)] := by
 simp only [itmR, List.cons_append, List.nil_append] at c1 c2 ⊢
 rw [mf_path_corner_eq]
 simp only [ptR, List.cons_append, List.nil_append] at hC
 simp only [go_sem, c1, c2, f1]
 rw [Qab (by omega)]
 simp only [hC, go_sem, List.length_map]
 have e : IntKind.i64.wrap ((IntKind.i64.wrap ((l.length : Int) - 1)).tdiv 2) = ((l.length / 2 : Nat) : Int) := by
  rw [Qab (x := (l.length : Int) - 1) (by omega), Int.tdiv_eq_ediv_of_nonneg (by omega), Qab (by omega)]
  omega
 have e2 : IntKind.i64.wrap (((l.length / 2 : Nat) : Int) + 1) = ((l.length / 2 + 1 : Nat) : Int) := by rw [Qab (by omega)]; omega
 simp only [e, e2, Int.toNat_natCast]
 rw [if_pos (by omega), if_pos (by omega), List.map_take, List.map_drop]
theorem s_path_corner {a b : Itm} (h1 : drawn a) (h2 : drawn b) :
  m_path_corner (itmR a ++ itmR b) = some [.view kPt (((cornerP (Qca a) (fine a.to) (Qca b) (a.blend * 16)).take ((cornerP (Qca a) (fine a.to) (Qca b) (a.blend * 16)).length / 2 + 1)).map ptR), .view kPt (((cornerP (Qca a) (fine a.to) (Qca b) (a.blend * 16)).drop ((cornerP (Qca a) (fine a.to) (Qca b) (a.blend * 16)).length / 2)).map ptR)] :=
 have k1 := center_bd h1.1.2.1 h1.1.2.2.1
 have k2 := fine_bd h1.1.2.2.1
 have k3 := center_bd h2.1.2.1 h2.1.2.2.1
 a_path_corner h1.2 (corner_bd k1 k2 k3).2 (corner_odd k1 k2 k3) (s_path_middle h1.1.2.1 h1.1.2.2.1) (s_path_middle h2.1.2.1 h2.1.2.2.1) (s_path_scaled (Qcb h1.1.2.2.1 (by decide))) (s_blend_Corner k1 k2 k3 (by have := h1.2; omega))
end Go.Bm
/- the reference's path of a list of items: the model gives it -/
set_option maxRecDepth 100000
namespace Go.Bm
open Classical

theorem mark_app (marks : List Mrk) (a k i : Int) : marks.map mrkR ++ [[AC.int IntKind.i64 a, AC.int IntKind.i64 k, AC.int IntKind.i64 i]] = (marks ++ [(⟨a, k, i⟩ : Mrk)]).map mrkR := by rw [List.map_append]; rfl
theorem a_B7 {MK MSo ML MP MSy MR MF MO MM MC : List AC -> Option (List AC)} {N19 : List AC -> Option (Nat × List AC)} {items : List Itm} {i : Nat} {s : BSt} (hi : i < items.length) (hlen : items.length <= 1000) (hmk : s.marks.length = i)
  (hM : MM [I (itA items i).kind] = some [B (decide (motI (itA items i)))]) (hO : MO (itmR (itA items i)) = some [I (otherK (itA items i))])
  (hF : motI (itA items i) -> MF [I (itA items i).fr.x, I (itA items i).fr.y, I (itA items i).fr.z] = some (ptR (fine (itA items i).fr)))
  (hR : motI (itA items i) -> MR (itmR (itA items i) ++ [I s.speed]) = some [I (rate (itA items i) s.speed)])
  (hSy : MSy (itmR (itA items i)) = some [B (decide (syI (itA items i)))])
  (hfeed : syI (itA items i) -> 0 <= (itA items i).feed /\ (itA items i).feed <= 60000000)
  (hP : motI (itA items i) -> MP [.view kItm (items.map itmR), I i, I s.frm] = some [.view kPt ((Qd9 items i s.frm).map ptR)])
  (hSo : MSo [.view kItm (items.map itmR), I i] = some [I (softK items i)]) (hK : MK [.view kItm (items.map itmR), I i] = some [I (kindK items i)])
  (hat : s.begun = true -> bd 67108864 s.at_) (hfr : motI (itA items i) -> bd 67108864 (fine (itA items i).fr))
  (hN : motI (itA items i) -> ∀ (b : Bool) (st a : Pt) (feed lead : Int), bd 67108864 a -> N19 [.view kSgm (s.segs.map sgmR), .view kMrk (s.marks.map mrkR), .view kItm (items.map itmR), I s.len, I s.speed, B b, I i, .view kItm (items.map itmR), I items.length, I i, .view kPt ((Qd9 items i s.frm).map ptR), I (Qd9 items i s.frm).length, I 0, I 0, I 0, I 0, .view kSgm [], .view kMrk [], I st.x, I st.y, I st.z, I a.x, I a.y, I a.z, I 0, I 0, I 0, I 0, I i, I feed, I lead] =
   some (2, [.view kSgm (((Qd9 items i s.frm).foldl (Qgc i feed lead) (s.segs, s.len, a)).1.map sgmR), .view kMrk (s.marks.map mrkR), .view kItm (items.map itmR), I ((Qd9 items i s.frm).foldl (Qgc i feed lead) (s.segs, s.len, a)).2.1, I s.speed, B b, I i, .view kItm (items.map itmR), I items.length, I i, I 0, I 0, I 0, .view kSgm [], .view kMrk [], I st.x, I st.y, I st.z, I ((Qd9 items i s.frm).foldl (Qgc i feed lead) (s.segs, s.len, a)).2.2.x, I ((Qd9 items i s.frm).foldl (Qgc i feed lead) (s.segs, s.len, a)).2.2.y, I ((Qd9 items i s.frm).foldl (Qgc i feed lead) (s.segs, s.len, a)).2.2.z])) :
  Qh5 MK MSo ML MP MSy MR MF MO MM MC N19 (bstR items i s) = some (0, bstR items (i + 1) (bStep items i s)) := by
 have hr := Qgb hi
 have hin : (0 : Int) <= (i : Int) /\ (i : Int) < (items.length : Int) := by omega
 have hw : IntKind.i64.wrap ((i : Int) + 1) = ((i + 1 : Nat) : Int) := by rw [Qab (by omega)]; omega
 have hb : (s.marks.length + 1) * 24 <= 140737488355328 := by omega
 unfold bstR
 rw [st_cncref25_Build_7_eq]
 simp only [itmR, List.cons_append, List.nil_append] at hO hR hSy
 by_cases hm : motI (itA items i)
 ·have hF := hF hm
  have hR := hR hm
  have hP := hP hm
  have hN := hN hm
  have h8 : ¬ (itA items i).kind = 8 := fun h => by have := hm.2; omega
  have hd := decide_eq_true hm
  rw [hd] at hM
  unfold bStep motS
  rw [if_pos hm]
  simp only [go_sem, List.length_map, Int.toNat_natCast, hr, if_pos hin, hw, hM]
  rw [if_pos (by omega), if_neg h8]
  have hl8 : ∀ f : Int, 0 <= f /\ f <= 60000000 -> IntKind.i64.wrap (f * 16) = f * 16 := fun f hf => Qab (by omega)
  by_cases hbg : s.begun = true
  ·have hN1 := fun (feed lead : Int) => hN true s.start s.at_ feed lead (hat hbg)
   rw [hbg] at *
   by_cases hs : syI (itA items i)
   ·have hd2 := decide_eq_true hs
    rw [hd2] at hSy
    have hld : leadI (itA items i) = mn ((itA items i).feed * 16) 16777216 := if_pos hs
    simp only [go_sem, hR, hSy, hP, hl8 _ (hfeed hs), List.length_map, hN1, hSo, hK, List.length_append, List.length_map, List.length_cons, List.length_nil, mark_app, hw, if_pos hb, hld]
    by_cases hso : 0 <= softK items i
    ·simp [hso]
    ·simp [hso]
   ·have hd2 := decide_eq_false hs
    rw [hd2] at hSy
    have hld : leadI (itA items i) = 0 := if_neg hs
    simp only [go_sem, hR, hSy, hP, List.length_map, hN1, hSo, hK, List.length_append, List.length_map, List.length_cons, List.length_nil, mark_app, hw, if_pos hb, hld]
    by_cases hso : 0 <= softK items i
    ·simp [hso]
    ·simp [hso]
  ·have hbg2 : s.begun = false := by simpa using hbg
   have hN1 := fun (feed lead : Int) => hN true (fine (itA items i).fr) (fine (itA items i).fr) feed lead (hfr hm)
   rw [hbg2]
   by_cases hs : syI (itA items i)
   ·have hd2 := decide_eq_true hs
    rw [hd2] at hSy
    have hld : leadI (itA items i) = mn ((itA items i).feed * 16) 16777216 := if_pos hs
    simp only [go_sem, hF, hR, hSy, hP, hl8 _ (hfeed hs), List.length_map, hN1, hSo, hK, List.length_append, List.length_map, List.length_cons, List.length_nil, mark_app, hw, if_pos hb, hld]
    by_cases hso : 0 <= softK items i
    ·simp [hso]
    ·simp [hso]
   ·have hd2 := decide_eq_false hs
    rw [hd2] at hSy
    have hld : leadI (itA items i) = 0 := if_neg hs
    simp only [go_sem, hF, hR, hSy, hP, List.length_map, hN1, hSo, hK, List.length_append, List.length_map, List.length_cons, List.length_nil, mark_app, hw, if_pos hb, hld]
    by_cases hso : 0 <= softK items i
    ·simp [hso]
    ·simp [hso]
 ·have hd := decide_eq_false hm
  rw [hd] at hM
  unfold bStep spdI
  rw [if_neg hm]
  simp only [go_sem, List.length_map, Int.toNat_natCast, hr, if_pos hin, hw, hM, hO, List.length_append, List.length_cons, List.length_nil, mark_app, if_pos hb]
  rw [if_pos (by omega)]
  by_cases h8 : (itA items i).kind = 8
  ·by_cases h3 : (itA items i).n = 3
   ·simp [h8, h3]
   ·by_cases h4 : (itA items i).n = 4
    ·simp [h8, h4]
    ·simp [h8, h3, h4]
  ·simp [h8]
end Go.Bm
/- the reference's path of a list of items, for up to 15 items -/
set_option maxRecDepth 100000
namespace Go.Bm
open Classical

theorem s_RateM {it : Itm} {speed : Int} (hf : it.kind = 1 \/ 1 <= it.feed /\ it.feed <= 60000000) (hs : 0 <= speed /\ speed <= 30000) : Qd1 (itmR it ++ [I speed]) = some [I (rate it speed)] := by
 by_cases h1 : it.kind = 1
 ·unfold Qd1 rate
  generalize Qcg = M
  have h := mf_cncref25_Rate_eq (Qa2 := M) it.kind it.block it.fr.x it.fr.y it.fr.z it.to.x it.to.y it.to.z it.plane it.ce.x it.ce.y it.ce.z it.dir it.full it.feed it.perRev it.side it.radius it.blend it.n it.speed it.on speed
  rw [if_pos h1]
  refine Eq.trans h ?_
  rw [Qiv (by simp [h1])]
 ·exact s_cncref25_Rate (by omega) hs
noncomputable def Qgj (items : List Itm) : Pth := ⟨(Qbw items items.length).start, (Qbw items items.length).segs, (Qbw items items.length).marks⟩
theorem step_B7 {items : List Itm} (hlen : items.length <= 15) (hright : ∀ j < items.length, ¬ Qf4 (itA items j)) {i : Nat} (hi : i < items.length) :
  Qh5 Qey Qdm Qbt Qd5 Qba Qd1 Qbj Qdz Qa1 Qel Qid (bstR items i (Qbw items i)) = some (0, bstR items (i + 1) (Qbw items (i + 1))) := by
 have hb := buildN_ok hright i (by omega)
 have hall : ∀ k < items.length, motI (itA items k) -> drawn (itA items k) := fun k hk hm => (right_mot (hright k hk) hm).1
 have hrm := right_mot (hright i hi)
 rw [Qbw]
 generalize Qbw items i = s at *
 refine a_B7 hi (by omega) hb.marks (s_cncref23_Motion _) (s_other _) (fun hm => s_Fine (Qcb (hrm hm).1.1.2.1 (by decide))) (fun hm => s_RateM (hrm hm).2 hb.speed) (s_sync _) (fun hs => ?_)
  (fun hm => s_points (by omega) hi (hrm hm).1 hb.frm hall) (s_Soft (by omega) hi) (s_kind (by omega) hi) hb.at_ (fun hm => Qcb (fine_bd (hrm hm).1.1.2.1) (by decide)) fun hm b st a feed lead ha => ?_
 ·have hm : motI (itA items i) := by rcases hs with h | h <;> exact ⟨by omega, by omega⟩
  have h2 := (hrm hm).2
  rcases hs with h | h <;> omega
 ·obtain ⟨p1, p2⟩ := points_bd (hrm hm).1 hb.frm hall
  have hseg := hb.segs
  have hln := hb.len
  have key := l_B19 (MK := Qey) (MSo := Qdm) (ML := Qbt) (MP := Qd5) (MSy := Qba) (MR := Qd1) (MF := Qbj) (MO := Qdz) (MM := Qa1) (MC := Qel)
   (items := items) (pts := Qd9 items i s.frm) (fun h1 h2 => ⟨(Qf9 h1 h2).1, len_bd h1 h2⟩) p1 (by omega) (marks := s.marks) (speed := s.speed) (i := i) (i2 := i) (n := items.length) (item := i) (feed := feed) (lead := lead) (begun := b) (st := st)
   (Qd9 items i s.frm).length 0 (s.segs, s.len, a) ⟨0, 0, 0⟩ 0 (by omega) (by simp only; omega) hln.1 (by simp only; omega) ha
  rw [List.drop_zero] at key
  exact key
theorem loop_B7 {items : List Itm} (hlen : items.length <= 15) (hright : ∀ j < items.length, ¬ Qf4 (itA items j)) : ∀ (k i : Nat), i + k = items.length ->
  Qbl (Qh5 Qey Qdm Qbt Qd5 Qba Qd1 Qbj Qdz Qa1 Qel Qid) (bstR items i (Qbw items i)) =
   some (2, [.view kSgm ((Qgj items).segs.map sgmR), .view kMrk ((Qgj items).marks.map mrkR), I 0, I 0, I 0, .view kSgm [], .view kMrk [], I (Qgj items).start.x, I (Qgj items).start.y, I (Qgj items).start.z])
 | 0, i, hi => by
  obtain rfl : i = items.length := by omega
  refine Qbn ?_ (by simp)
  unfold bstR Qgj
  rw [st_cncref25_Build_7_eq, Qcs (by omega)]
 | k + 1, i, hi => by
  rw [Qbk (step_B7 hlen hright (by omega))]
  exact loop_B7 hlen hright k (i + 1) (by omega)
theorem a_Build {MK MSo ML MP MSy MR MF MO MM MC : List AC -> Option (List AC)} {N19 N7 : List AC -> Option (Nat × List AC)} {items : List Itm} {e : Int} (hC : MC [.view kItm (items.map itmR)] = some [I e])
  (hN : e = 0 -> N7 (bstR items 0 (Qbw items 0)) = some (2, [.view kSgm ((Qgj items).segs.map sgmR), .view kMrk ((Qgj items).marks.map mrkR), I 0, I 0, I 0, .view kSgm [], .view kMrk [], I (Qgj items).start.x, I (Qgj items).start.y, I (Qgj items).start.z])) :
  mf_cncref25_Build MK MSo ML MP MSy MR MF MO MM MC N19 N7 [.view kItm (items.map itmR)] = if e = 0 then some (pthR (Qgj items) ++ [I 0]) else some [I 0, I 0, I 0, .view kSgm [], .view kMrk [], I e] := by
 rw [mf_cncref25_Build_eq]
 simp only [go_sem, hC, List.length_map]
 by_cases he : e = 0
 ·have h := hN he
  have h' : N7 [.view kSgm [], .view kMrk [], .view kItm (items.map itmR), I 0, I 0, I (-1), B false, .view kItm (items.map itmR), I items.length, I 0, I 0, I 0, I 0, .view kSgm [], .view kMrk [], I 0, I 0, I 0, I 0, I 0, I 0] = _ := h
  rw [if_neg (by simp [he]), if_pos he, h']
  simp only [go_sem]
  rfl
 ·rw [if_pos he, if_neg he]
theorem s_Build {items : List Itm} (hlen : items.length <= 15) : Qdh [.view kItm (items.map itmR)] = if Qfh items = 0 then some (pthR (Qgj items) ++ [I 0]) else some [I 0, I 0, I 0, .view kSgm [], .view kMrk [], I (Qfh items)] :=
 a_Build (s_Check items) fun he => loop_B7 hlen (check_right he).2 items.length 0 (by omega)
end Go.Bm
/- what is known of every path that the reference builds -/
set_option maxRecDepth 100000
namespace Go.Bm
open Classical

def endOf : Pt -> List Sgm -> Pt
 | a, [] => a
 | _, g :: l => endOf g.to l
abbrev B26 : Nat := 67108864
def goodSegs : Pt -> List Sgm -> Prop
 | _, [] => True
 | a, g :: l => g.len = lenP a g.to /\ g.to ≠ a /\ bd B26 g.to /\ goodSegs g.to l
def sumLen : List Sgm -> Int
 | [] => 0
 | g :: l => g.len + sumLen l
theorem endOf_snoc (g : Sgm) : ∀ (a : Pt) (l : List Sgm), endOf a (l ++ [g]) = g.to
 | _, [] => rfl
 | _, h :: l => by simp only [List.cons_append, endOf]; exact endOf_snoc g h.to l
theorem goodSegs_snoc {g : Sgm} : ∀ {a : Pt} {l : List Sgm}, goodSegs a l -> g.len = lenP (endOf a l) g.to -> g.to ≠ endOf a l -> bd B26 g.to -> goodSegs a (l ++ [g])
 | a, [], _, h1, h2, h3 => ⟨h1, h2, h3, trivial⟩
 | a, k :: l, h, h1, h2, h3 => ⟨h.1, h.2.1, h.2.2.1, goodSegs_snoc h.2.2.2 h1 h2 h3⟩
theorem sumLen_snoc (g : Sgm) : ∀ (l : List Sgm), sumLen (l ++ [g]) = sumLen l + g.len
 | [] => by simp [sumLen]
 | k :: l => by simp only [List.cons_append, sumLen]; rw [sumLen_snoc g l]; omega
def segInv (start : Pt) (s : List Sgm × Int × Pt) : Prop := goodSegs start s.1 /\ endOf start s.1 = s.2.2 /\ sumLen s.1 = s.2.1
theorem fold_inv {start : Pt} {item feed lead : Int} : ∀ (pts : List Pt) (s : List Sgm × Int × Pt), (∀ p ∈ pts, bd B26 p) -> segInv start s -> segInv start (pts.foldl (Qgc item feed lead) s)
 | [], s, _, h => h
 | q :: pts, s, hp, h => by
  rw [List.foldl_cons]
  refine fold_inv pts _ (fun p hp' => hp p (by simp [hp'])) ?_
  unfold Qgc
  by_cases c : q = s.2.2
  ·rw [if_pos c]; exact h
  ·rw [if_neg c]
   obtain ⟨h1, h2, h3⟩ := h
   refine ⟨goodSegs_snoc h1 (by rw [h2]) (by rw [h2]; exact c) (hp q (by simp)), endOf_snoc _ _ _, ?_⟩
   simp only [sumLen_snoc, h3]
structure BInv (s : BSt) : Prop where
 begun : s.begun = true -> bd B26 s.start /\ segInv s.start (s.segs, s.len, s.at_)
 empty : s.begun = false -> s.segs = [] /\ s.len = 0 /\ s.start = ⟨0, 0, 0⟩
theorem bStep_inv {items : List Itm} {i : Nat} {s : BSt} (hi : i < items.length) (hright : ∀ j < items.length, ¬ Qf4 (itA items j)) (hok : BOK items i s) (h : BInv s) : BInv (bStep items i s) := by
 have hall : ∀ k < items.length, motI (itA items k) -> drawn (itA items k) := fun k hk hm => (right_mot (hright k hk) hm).1
 unfold bStep
 by_cases hm : motI (itA items i)
 ·rw [if_pos hm]
  have hd := hall i hi hm
  obtain ⟨p1, -⟩ := points_bd hd hok.frm hall
  refine ⟨fun _ => ?_, fun hb => (by cases hb)⟩
  unfold motS
  by_cases hb : s.begun = true
  ·rw [if_pos hb, if_pos hb]
   obtain ⟨g1, g2⟩ := h.begun hb
   exact ⟨g1, fold_inv _ _ p1 g2⟩
  ·rw [if_neg hb, if_neg hb]
   obtain ⟨g1, g2, g3⟩ := h.empty (by simpa using hb)
   refine ⟨Qcb (fine_bd hd.1.2.1) (by decide), fold_inv _ _ p1 ?_⟩
   rw [g1, g2]
   exact ⟨trivial, rfl, rfl⟩
 ·rw [if_neg hm]
  exact ⟨h.begun, h.empty⟩
theorem buildN_inv {items : List Itm} (hright : ∀ j < items.length, ¬ Qf4 (itA items j)) : ∀ i, i <= items.length -> BInv (Qbw items i)
 | 0, _ => by rw [Qbw]; exact ⟨fun h => (by cases h), fun _ => ⟨rfl, rfl, rfl⟩⟩
 | i + 1, hi => by rw [Qbw]; exact bStep_inv (by omega) hright (buildN_ok hright i (by omega)) (buildN_inv hright i (by omega))
structure GoodPath (p : Pth) : Prop where
 start : bd B26 p.start
 segs : goodSegs p.start p.segs
 count : p.segs.length <= 983055
theorem goodP_of {items : List Itm} (hlen : items.length <= 15) (hc : Qfh items = 0) : GoodPath (Qgj items) := by
 have hright := (check_right hc).2
 have h1 := buildN_ok hright items.length (Nat.le_refl _)
 have h2 := buildN_inv hright items.length (Nat.le_refl _)
 have hs := h1.segs
 unfold Qgj
 by_cases hb : (Qbw items items.length).begun = true
 ·obtain ⟨g1, g2, -⟩ := h2.begun hb
  exact ⟨g1, g2, by simp only; omega⟩
 ·obtain ⟨g1, -, g3⟩ := h2.empty (by simpa using hb)
  refine ⟨?_, ?_, ?_⟩
  ·simp only [g3]; unfold bd; simp
  ·simp only [g1]; trivial
  ·simp only [g1]; simp
theorem len_pos {a b : Pt} (ha : bd B26 a) (hb : bd B26 b) (h : b ≠ a) : 1 <= lenP a b /\ lenP a b <= 268435456 := by
 obtain ⟨-, h1, h2, -⟩ := Qf9 ha hb
 have h3 : sqD a b ≠ 0 := fun e => h (sqD_zero.1 e).symm
 have h4 := sqD_nn a b
 have h5 := len_bd ha hb
 refine ⟨?_, h5.2⟩
 by_cases c : lenP a b = 0
 ·rw [c] at h2; omega
 ·omega
theorem good_len {a : Pt} {l : List Sgm} (ha : bd B26 a) (h : goodSegs a l) : ∀ g ∈ l, 1 <= g.len /\ g.len <= 268435456 /\ bd B26 g.to := by
 induction l generalizing a with
 | nil => simp
 | cons k l ih =>
  obtain ⟨h1, h2, h3, h4⟩ := h
  intro g hg
  rcases List.mem_cons.1 hg with rfl | hg
  ·rw [h1]; exact ⟨(len_pos ha h3 h2).1, (len_pos ha h3 h2).2, h3⟩
  ·exact ih h3 h4 g hg
theorem sum_bd {l : List Sgm} (h : ∀ g ∈ l, 1 <= g.len /\ g.len <= 268435456 /\ bd B26 g.to) : (l.length : Int) <= sumLen l /\ sumLen l <= l.length * 268435456 := by
 induction l with
 | nil => simp [sumLen]
 | cons k l ih =>
  have := ih fun g hg => h g (by simp [hg])
  have := h k (by simp)
  simp only [sumLen, List.length_cons]
  omega
end Go.Bm
/- the program's path of a list of items: its points, its marks, what it adds -/
set_option maxRecDepth 100000
namespace Go.Bm
open Classical

theorem a_path_points {MM MN MS MC MSm MK : List AC -> Option (List AC)} {items : List Itm} {i : Nat} {frm : Int} (hi : i < items.length) (hd : drawn (itA items i)) (hf : frmOK items i frm) (hall : ∀ k < items.length, motI (itA items k) -> drawn (itA items k))
  (hK : MK (itmR (itA items i)) = some [.view kPt ((Qfv (itA items i)).map ptR), B true]) (hM : MSm (itmR (itA items i)) = some [B (decide (smI (itA items i)))])
  (hJ : ∀ {i k : Nat}, i < items.length -> k < items.length -> drawn (itA items i) -> drawn (itA items k) -> MC (itmR (itA items i) ++ itmR (itA items k)) = some [.view kPt (((Qhb items i k).take ((Qhb items i k).length / 2 + 1)).map ptR), .view kPt (((Qhb items i k).drop ((Qhb items i k).length / 2)).map ptR)])
  (hS : MS [.view kItm (items.map itmR), I i] = some [B (decide (0 <= softK items i))]) (hN : MN [.view kItm (items.map itmR), I i] = some [I (nextN items i)]) (hC : MM (itmR (itA items i)) = some (ptR (Qca (itA items i)))) :
  mf_path_points MM MN MS MC MSm MK [.view kItm (items.map itmR), I i, I frm] = some [.view kPt ((Qd9 items i frm).map ptR)] := by
 have r1 := Qgb hi
 obtain ⟨hcl1, hcl2⟩ := chordsP_len (itA items i)
 rw [mf_path_points_eq]
 simp only [itmR, List.cons_append, List.nil_append] at hK hM hC hJ
 have hin : (0 : Int) <= (i : Int) /\ (i : Int) < (items.length : Int) := by omega
 simp only [go_sem, List.length_map, Int.toNat_natCast, r1, hK, hM, hC, hS, hN, List.nil_append, if_pos hin]
 unfold Qd9
 by_cases hs : smI (itA items i)
 case neg => rw [if_pos (by simp [hs]), if_neg hs]
 rw [if_neg (by simp [hs]), if_pos hs]
 have hk3 : (itA items i).kind ≠ 3 := by have := hs.1; omega
 have hcl3 : (Qfv (itA items i)).length = 2 := by unfold Qfv; rw [if_neg hk3]; rfl
 have w1 : IntKind.i64.wrap (((Qfv (itA items i)).length : Int) - 1) = 1 := by rw [hcl3]; rfl
 rw [w1, hcl3, if_pos (by omega), if_pos (by omega)]
 unfold tailP
 rcases hf with rfl | ⟨f, rfl, hf1, hf2⟩
 ·rw [if_neg (show ¬ (-1 : Int) >= 0 by omega)]
  unfold headP
  rw [if_neg (show ¬ (0 : Int) <= -1 by omega)]
  by_cases hpos : 0 <= softK items i
  ·obtain ⟨k, hk, hk1, hk2⟩ := soft_get hall hpos
   have hnx := soft_next hpos
   rw [hk] at hnx
   have hnk : nextN items i = k := by omega
   obtain ⟨j1, j2, j3⟩ := joined_bd (items := items) (i := i) (k := k) hd hk2
   have hj := hJ hi hk1 hd hk2
   have r2 := Qgb hk1
   have hin2 : (0 : Int) <= (k : Int) /\ (k : Int) < (items.length : Int) := by omega
   rw [if_pos hpos, if_pos hpos, hk, hnk, Int.toNat_natCast, if_pos hin2]
   simp only [go_sem, Int.toNat_natCast, r2, hj]
   rw [if_pos (by simp [map_take1]; omega), if_pos (by simp; omega), if_pos (by simp; omega)]
   simp only [map_take1, List.map_append, List.map_cons, List.map_nil]
  ·rw [if_neg hpos, if_neg hpos, if_pos (by simp [map_take1]; omega), if_pos (by simp; omega), if_pos (by simp; omega)]
   simp only [map_take1, map_drop1, List.map_append, List.map_cons, List.map_nil]
 ·have hjf := hJ hf1 hi hf2 hd
  obtain ⟨f1, f2, f3⟩ := joined_bd (items := items) (i := f) (k := i) hf2 hd
  have rf := Qgb hf1
  have hinf : (0 : Int) <= (f : Int) /\ (f : Int) < (items.length : Int) := by omega
  rw [if_pos (show (f : Int) >= 0 by omega), if_pos hinf]
  unfold headP
  rw [if_pos (show (0 : Int) <= (f : Int) by omega), Int.toNat_natCast]
  simp only [rf, go_sem, hjf, Int.toNat_natCast]
  by_cases hpos : 0 <= softK items i
  ·obtain ⟨k, hk, hk1, hk2⟩ := soft_get hall hpos
   have hnx := soft_next hpos
   rw [hk] at hnx
   have hnk : nextN items i = k := by omega
   obtain ⟨j1, j2, j3⟩ := joined_bd (items := items) (i := i) (k := k) hd hk2
   have hj := hJ hi hk1 hd hk2
   have r2 := Qgb hk1
   have hin2 : (0 : Int) <= (k : Int) /\ (k : Int) < (items.length : Int) := by omega
   rw [if_pos hpos, if_pos hpos, hk, hnk, Int.toNat_natCast, if_pos hin2]
   simp only [go_sem, Int.toNat_natCast, r2, hj]
   rw [if_pos (by simp; omega), if_pos (by simp; omega), if_pos (by simp; omega)]
   simp only [List.map_append, List.map_cons, List.map_nil]
  ·rw [if_neg hpos, if_neg hpos, if_pos (by simp; omega), if_pos (by simp; omega), if_pos (by simp; omega)]
   simp only [map_drop1, List.map_append, List.map_cons, List.map_nil]
theorem s_path_points {items : List Itm} (hl : items.length <= 1000000) {i : Nat} {frm : Int} (hi : i < items.length) (hd : drawn (itA items i)) (hf : frmOK items i frm) (hall : ∀ k < items.length, motI (itA items k) -> drawn (itA items k)) :
  m_path_points [.view kItm (items.map itmR), I i, I frm] = some [.view kPt ((Qd9 items i frm).map ptR)] :=
 a_path_points hi hd hf hall (s_curve_Chords hd.1) (s_path_smooth _) (fun h1 h2 h3 h4 => s_path_corner h3 h4) (s_path_soft hl hi) (s_path_next hl hi) (s_path_middle hd.1.2.1 hd.1.2.2.1)

theorem l_exact {MM MS : List AC -> Option (List AC)} {l : List Itm} (hM : ∀ k : Int, MM [I k] = some [B (decide (1 <= k /\ k <= 6))]) (hS : ∀ it, MS (itmR it) = some [B (decide (syI it))]) (hl : l.length <= 1000000) : ∀ (k i : Nat), i + k = l.length ->
  (Qbl (Qhw MM MS) [.view kItm (l.map itmR), I l.length, I i] = some (1, [B (decide (nextSy (l.drop i) = 1))])) \/ (Qbl (Qhw MM MS) [.view kItm (l.map itmR), I l.length, I i] = some (2, []) /\ nextSy (l.drop i) = 2)
 | 0, i, hi => by
  right
  refine ⟨Qbn ?_ (by simp), by rw [List.drop_of_length_le (by omega)]; rfl⟩
  rw [st_path_exact_4_eq]
  simp only [go_sem]
  rw [if_neg (by omega)]
 | k + 1, i, hi => by
  have hlt : i < l.length := by omega
  have hr := Qgb hlt
  rw [drop_itA hlt]
  have hs := hS (itA l i)
  have hm := hM (itA l i).kind
  have hst : Qhw MM MS [.view kItm (l.map itmR), I l.length, I i] = if motI (itA l i) then some (1, [B (decide (syI (itA l i)))]) else some (0, [.view kItm (l.map itmR), I l.length, I (i + 1 : Nat)]) := by
   rw [st_path_exact_4_eq]
   simp only [itmR] at hs
   have hin : (0 : Int) <= (i : Int) /\ (i : Int) < (l.length : Int) := by omega
   simp only [go_sem, List.length_map, Int.toNat_natCast, hr, hs, hm, if_pos hin]
   rw [if_pos (by omega), Qab (by omega)]
   by_cases h1 : motI (itA l i)
   ·rw [if_pos (show 1 <= (itA l i).kind /\ (itA l i).kind <= 6 from h1), if_pos h1]
   ·rw [if_neg (show ¬ (1 <= (itA l i).kind /\ (itA l i).kind <= 6) from h1), if_neg h1]; rfl
  unfold nextSy
  by_cases h10 : motI (itA l i)
  ·rw [if_pos h10] at hst ⊢
   left
   rw [Qbn hst (by simp)]
   by_cases hsm : syI (itA l i)
   ·rw [if_pos hsm, decide_eq_true hsm]; rfl
   ·rw [if_neg hsm, decide_eq_false hsm]; rfl
  ·rw [if_neg h10] at hst ⊢
   rw [Qbk hst]
   exact l_exact hM hS hl k (i + 1) (by omega)
def exactI (items : List Itm) (i : Nat) : Prop := (itA items i).blend = 0 \/ syI (itA items i) \/ nextSy (items.drop (i + 1)) = 1
theorem a_path_exact {MM MS : List AC -> Option (List AC)} {items : List Itm} (hM : ∀ k : Int, MM [I k] = some [B (decide (1 <= k /\ k <= 6))]) (hS : ∀ it, MS (itmR it) = some [B (decide (syI it))]) (hl : items.length <= 1000000) {i : Nat} (hi : i < items.length) :
  mf_path_exact MM MS (Qbl (Qhw MM MS)) [.view kItm (items.map itmR), I i] = some [B (decide (exactI items i))] := by
 have hr := Qgb hi
 have hs := hS (itA items i)
 have hL := l_exact hM hS (l := items.drop (i + 1)) (by rw [List.length_drop]; omega) (items.drop (i + 1)).length 0 (by omega)
 rw [List.drop_zero] at hL
 rw [mf_path_exact_eq]
 simp only [itmR] at hs
 have hw : IntKind.i64.wrap ((i : Int) + 1) = ((i + 1 : Nat) : Int) := by rw [Qab (by omega)]; omega
 have hin : (0 : Int) <= (i : Int) /\ (i : Int) < (items.length : Int) := by omega
 have hin3 : (0 : Int) <= ((i + 1 : Nat) : Int) /\ ((i + 1 : Nat) : Int) <= (items.length : Int) := by omega
 have hdl : (List.drop (i + 1) (items.map itmR)).length = (items.drop (i + 1)).length := by rw [List.length_drop, List.length_drop, List.length_map]
 generalize Qbl (Qhw MM MS) = N at *
 simp only [go_sem, List.length_map, Int.toNat_natCast, hr, hs, hw, if_pos hin, if_pos hin3, hdl]
 rw [<- List.map_drop]
 by_cases h2 : (itA items i).blend = 0
 ·rw [if_pos h2, decide_eq_true (show exactI items i from .inl h2)]
 ·rw [if_neg h2]
  by_cases h3 : syI (itA items i)
  ·rw [if_pos h3, decide_eq_true (show exactI items i from .inr (.inl h3))]
  ·rw [if_neg h3]
   rcases hL with hL | ⟨hL, hn⟩
   ·have hL' : N [.view kItm ((items.drop (i + 1)).map itmR), I (items.drop (i + 1)).length, I 0] = some (1, [B (decide (nextSy (items.drop (i + 1)) = 1))]) := hL
    simp only [hL', go_sem]
    by_cases h4 : nextSy (items.drop (i + 1)) = 1
    ·rw [decide_eq_true h4, decide_eq_true (show exactI items i from .inr (.inr h4))]
    ·rw [decide_eq_false h4, decide_eq_false (show ¬ exactI items i from fun h => h.elim h2 fun h => h.elim h3 h4)]
   ·have hL' : N [.view kItm ((items.drop (i + 1)).map itmR), I (items.drop (i + 1)).length, I 0] = some (2, []) := hL
    simp only [hL', go_sem]
    rw [decide_eq_false (show ¬ exactI items i from fun h => h.elim h2 fun h => h.elim h3 fun h => by rw [hn] at h; cases h)]
    simp
theorem s_path_exact {items : List Itm} (hl : items.length <= 1000000) {i : Nat} (hi : i < items.length) : m_path_exact [.view kItm (items.map itmR), I i] = some [B (decide (exactI items i))] := a_path_exact s_path_motion s_path_geared hl hi
def markK (items : List Itm) (i : Nat) : Int := if motI (itA items i) then kindK items i else otherK (itA items i)
theorem a_path_mark {ME MM : List AC -> Option (List AC)} {items : List Itm} {i : Nat} {segs : List (List AC)} {marks : List Mrk} {st : Pt} {b : Bool} {len sp mid : Int} (hi : i < items.length) (hml : marks.length <= 1000000)
  (hM : MM [I (itA items i).kind] = some [B (decide (motI (itA items i)))]) (hE : ME [.view kItm (items.map itmR), I i] = some [B (decide (exactI items i))]) :
  mf_path_builder_mark ME MM [.view kSgm segs, .view kMrk (marks.map mrkR), .view kItm (items.map itmR), I i, I st.x, I st.y, I st.z, B b, I len, I sp, I mid] =
   some [.view kSgm segs, .view kMrk ((marks ++ [(⟨len, markK items i, i⟩ : Mrk)]).map mrkR), I st.x, I st.y, I st.z, B b, I len, I sp, I mid] := by
 have hr := Qgb hi
 have hin : (0 : Int) <= (i : Int) /\ (i : Int) < (items.length : Int) := by omega
 have hb : (marks.length + 1) * 24 <= 140737488355328 := by omega
 have e : ∀ k : Int, marks.map mrkR ++ [[I len, I k, I i]] = (marks ++ [(⟨len, k, i⟩ : Mrk)]).map mrkR := fun k => by rw [List.map_append]; rfl
 rw [mf_path_builder_mark_eq]
 simp only [go_sem, List.length_map, Int.toNat_natCast, hr, if_pos hin, hM, hE, List.length_append, List.length_cons, List.length_nil, if_pos hb]
 have fin : ∀ {k : Int}, k = markK items i -> some [AC.view kSgm segs, .view kMrk (marks.map mrkR ++ [[I len, I k, I i]]), I st.x, I st.y, I st.z, B b, I len, I sp, I mid] = some [.view kSgm segs, .view kMrk ((marks ++ [(⟨len, markK items i, i⟩ : Mrk)]).map mrkR), I st.x, I st.y, I st.z, B b, I len, I sp, I mid] := by
  intro k hk; rw [e, hk]
 unfold markK kindK otherK at fin ⊢
 by_cases c4 : (itA items i).kind = 4
 ·rw [if_pos c4]
  have hm : motI (itA items i) := ⟨by omega, by omega⟩
  exact fin (by rw [if_pos hm, if_pos c4])
 ·rw [if_neg c4]
  by_cases hm : motI (itA items i)
  ·rw [if_pos hm]
   by_cases hx : exactI items i
   ·rw [if_pos hx]
    refine fin ?_
    rw [if_pos hm, if_neg c4]
    rcases hx with h | h | h
    ·rw [if_pos h]
    ·by_cases h2 : (itA items i).blend = 0
     ·rw [if_pos h2]
     ·rw [if_neg h2, if_pos h]
    ·by_cases h2 : (itA items i).blend = 0
     ·rw [if_pos h2]
     ·rw [if_neg h2]
      by_cases h3 : syI (itA items i)
      ·rw [if_pos h3]
      ·rw [if_neg h3, h]
   ·rw [if_neg hx, if_pos hm]
    refine fin ?_
    rw [if_pos hm, if_neg c4, if_neg (fun h => hx (.inl h)), if_neg (fun h => hx (.inr (.inl h)))]
    have hns : ∀ l : List Itm, nextSy l = 1 \/ nextSy l = 2 := by
     intro l
     induction l with
     | nil => right; rfl
     | cons it l ih =>
      unfold nextSy
      split
      ·split <;> simp
      ·exact ih
    rcases hns (items.drop (i + 1)) with h | h
    ·exact absurd (.inr (.inr h)) hx
    ·rw [h]
  ·rw [if_neg hm, if_neg hm]
   by_cases c10 : (itA items i).kind = 10
   ·rw [if_pos c10]; exact fin (by rw [if_neg hm, if_pos c10])
   ·rw [if_neg c10]
    by_cases c13 : (itA items i).kind = 13
    ·rw [if_pos c13]; exact fin (by rw [if_neg hm, if_neg c10, if_pos c13])
    ·rw [if_neg c13]; exact fin (by rw [if_neg hm, if_neg c10, if_neg c13])
theorem s_path_mark {items : List Itm} (hl : items.length <= 1000000) {i : Nat} {segs : List (List AC)} {marks : List Mrk} {st : Pt} {b : Bool} {len sp mid : Int} (hi : i < items.length) (hml : marks.length <= 1000000) :
  Qdx [.view kSgm segs, .view kMrk (marks.map mrkR), .view kItm (items.map itmR), I i, I st.x, I st.y, I st.z, B b, I len, I sp, I mid] =
   some [.view kSgm segs, .view kMrk ((marks ++ [(⟨len, markK items i, i⟩ : Mrk)]).map mrkR), I st.x, I st.y, I st.z, B b, I len, I sp, I mid] :=
 a_path_mark hi hml (s_path_motion _) (s_path_exact hl hi)
end Go.Bm
/- the program's path of a list of items is the reference's -/
set_option maxRecDepth 100000
namespace Go.Bm
open Classical

theorem segs_last (a : Pt) (segs : List Sgm) : segs = [] \/ ∃ l g, segs = l ++ [g] /\ endOf a segs = g.to /\ ((segs.length : Int) > 0) /\ nth [] (segs.map sgmR) (segs.length - 1) = sgmR g := by
 rcases List.eq_nil_or_concat segs with h | ⟨l, g, h⟩
 ·exact .inl h
 ·right
  rw [List.concat_eq_append] at h
  refine ⟨l, g, h, ?_, ?_, ?_⟩
  ·rw [h]; exact endOf_snoc g a l
  ·rw [h]; simp
  ·have hl : segs.length - 1 < segs.length := by rw [h]; simp
   rw [nth_map _ _ _ _ hl]
   congr 1
   subst h
   simp
theorem a_path_add0 {ML : List AC -> Option (List AC)} {marks : List (List AC)} {q g st : Pt} {gl item feed lead len sp mid : Int} :
  mf_path_builder_add ML [.view kSgm [], .view kMrk marks, I q.x, I q.y, I q.z, I g.x, I g.y, I g.z, I gl, I item, I feed, I lead, I st.x, I st.y, I st.z, B false, I len, I sp, I mid] =
   some [.view kSgm [], .view kMrk marks, I q.x, I q.y, I q.z, B true, I len, I sp, I mid] := by
 rw [mf_path_builder_add_eq]
 simp
theorem a_path_add {ML : List AC -> Option (List AC)} {segs : List Sgm} {marks : List (List AC)} {q g st at_ : Pt} {gl item feed lead len sp mid : Int} (hat : endOf st segs = at_)
  (hL : ML [I at_.x, I at_.y, I at_.z, I q.x, I q.y, I q.z] = some [I (lenP at_ q)]) (hl : 0 <= lenP at_ q /\ lenP at_ q <= 268435456) (hs : segs.length + 1 <= 1048577) (hlen : 0 <= len /\ len <= 4000000000000000000) :
  mf_path_builder_add ML [.view kSgm (segs.map sgmR), .view kMrk marks, I q.x, I q.y, I q.z, I g.x, I g.y, I g.z, I gl, I item, I feed, I lead, I st.x, I st.y, I st.z, B true, I len, I sp, I mid] =
   some [.view kSgm ((Qgc item feed lead (segs, len, at_) q).1.map sgmR), .view kMrk marks, I st.x, I st.y, I st.z, B true, I (Qgc item feed lead (segs, len, at_) q).2.1, I sp, I mid] := by
 have hap : (segs.map sgmR ++ [[I q.x, I q.y, I q.z, I (lenP at_ q), I item, I feed, I lead]]) = (segs ++ [(⟨q, lenP at_ q, item, feed, lead⟩ : Sgm)]).map sgmR := by rw [List.map_append]; rfl
 rw [mf_path_builder_add_eq]
 try dsimp only [go_sem]
 rcases segs_last st segs with h | ⟨l, s, h1, h2, h3, h4⟩
 ·subst h
  have hat' : st = at_ := hat
  subst hat'
  simp only [List.map_nil, List.length_nil]
  rw [Qcs (by decide), Bool.not_true, cond_false]
  by_cases c : q = st
  ·have c4 := pt_ext.1 c
   rw [Qiv (by simp [c4.1, c4.2.1, c4.2.2]), show Qgc item feed lead ([], len, st) q = ([], len, st) from if_pos c]
   rfl
  ·rw [Qhy, hL]
   ·simp only [Option.bind_some, nth_zero', Qi0, gA, jA, wA, bA, List.nil_append, List.length_cons, List.length_nil]
    rw [Qiv (by decide), show Qgc item feed lead ([], len, st) q = ([⟨q, lenP st q, item, feed, lead⟩], len + lenP st q, q) from if_neg c, Qab (by omega)]
    rfl
   ·have c2 : ¬ (q.x = st.x /\ q.y = st.y /\ q.z = st.z) := fun g => c (pt_ext.2 g)
    simp only [Bool.and_true, Bool.and_eq_false_iff, beq_eq_false_iff_ne]
    omega
 ·rw [hat] at h2
  have w1 : IntKind.i64.wrap ((segs.length : Int) - 1) = ((segs.length - 1 : Nat) : Int) := by rw [Qab (by omega)]; omega
  have hin : (0 : Int) <= ((segs.length - 1 : Nat) : Int) /\ ((segs.length - 1 : Nat) : Int) < (segs.length : Int) := by omega
  rw [h2] at hL hap ⊢
  clear h1
  simp only [go_sem, List.length_map, w1, Int.toNat_natCast, h4, if_pos h3, if_pos hin, hL, List.length_append, List.length_cons, List.length_nil]
  rw [if_neg (by simp)]
  by_cases c : q = s.to
  ·have c4 := pt_ext.1 c
   rw [if_pos ⟨c4.1, c4.2.1, c4.2.2, trivial⟩, show Qgc item feed lead (segs, len, s.to) q = (segs, len, s.to) from if_pos c]
  ·rw [if_neg (fun g => c (pt_ext.2 ⟨g.1, g.2.1, g.2.2.1⟩)), if_pos (by omega), show Qgc item feed lead (segs, len, s.to) q = (segs ++ [⟨q, lenP s.to q, item, feed, lead⟩], len + lenP s.to q, q) from if_neg c, Qab (by rw [<- h2] at *; omega), hap]
noncomputable def stepM (it : Itm) (item feed lead : Int) (s : (List Sgm × Int × Pt) × Int) (q : Pt) : (List Sgm × Int × Pt) × Int :=
 (Qgc item feed lead s.1 q, if smI it /\ q = Qca it then (Qgc item feed lead s.1 q).2.1 else s.2)
theorem stepM_fst {it : Itm} {item feed lead : Int} : ∀ (pts : List Pt) (s : (List Sgm × Int × Pt) × Int), (pts.foldl (stepM it item feed lead) s).1 = pts.foldl (Qgc item feed lead) s.1
 | [], _ => rfl
 | q :: pts, s => by rw [List.foldl_cons, List.foldl_cons, stepM_fst pts]; rfl
theorem st_move {MM MSm MA MP MG MR : List AC -> Option (List AC)} {it : Itm} {pts : List Pt} {j : Nat} (hj : j < pts.length) (hpl : pts.length <= 1000000) {segs segs' : List (List AC)} {marks : List (List AC)} {g st st' : Pt} {b b' : Bool} {gl item feed lead len len' sp mid : Int}
  (hM : MSm (itmR it) = some [B (decide (smI it))]) (hC : MM (itmR it) = some (ptR (Qca it)))
  (hA : MA [.view kSgm segs, .view kMrk marks, I pts[j].x, I pts[j].y, I pts[j].z, I g.x, I g.y, I g.z, I gl, I item, I feed, I lead, I st.x, I st.y, I st.z, B b, I len, I sp, I mid] = some [.view kSgm segs', .view kMrk marks, I st'.x, I st'.y, I st'.z, B b', I len', I sp, I mid]) :
  Qea MM MSm MA MP MG MR (.view kSgm segs :: .view kMrk marks :: .view kPt (pts.map ptR) :: I pts.length :: I j :: (itmR it ++ [I g.x, I g.y, I g.z, I gl, I item, I feed, I lead, I st.x, I st.y, I st.z, B b, I len, I sp, I mid])) =
   some (0, .view kSgm segs' :: .view kMrk marks :: .view kPt (pts.map ptR) :: I pts.length :: I (j + 1 : Nat) :: (itmR it ++ [I g.x, I g.y, I g.z, I gl, I item, I feed, I lead, I st'.x, I st'.y, I st'.z, B b', I len', I sp, I (if smI it /\ pts[j] = Qca it then len' else mid)])) := by
 have hr : nth [] (pts.map ptR) j = ptR pts[j] := nth_map _ _ _ _ hj
 have hin : (0 : Int) <= (j : Int) /\ (j : Int) < (pts.length : Int) := by omega
 have hw : IntKind.i64.wrap ((j : Int) + 1) = ((j + 1 : Nat) : Int) := by rw [Qab (by omega)]; omega
 generalize pts[j] = q at *
 simp only [itmR] at hM hC
 simp only [itmR, List.cons_append, List.nil_append]
 rw [st_path_builder_move_6_eq]
 simp only [go_sem, List.length_map, Int.toNat_natCast, hr, if_pos hin, hA, hM, hC, hw]
 rw [if_pos (by omega)]
 by_cases c : smI it
 ·rw [if_pos c]
  by_cases c2 : q = Qca it
  ·have c3 := pt_ext.1 c2
   rw [if_pos ⟨c3.1, c3.2.1, c3.2.2, trivial⟩, if_pos ⟨c, c2⟩]
  ·rw [if_neg (fun h => c2 (pt_ext.2 ⟨h.1, h.2.1, h.2.2.1⟩)), if_neg (fun h => c2 h.2)]
 ·rw [if_neg c, if_neg (fun h => c h.1)]
theorem l_move {MM MSm MA MP MG MR : List AC -> Option (List AC)} {it : Itm} {pts : List Pt} (hpl : pts.length <= 1000000) {marks : List (List AC)} {g st : Pt} {gl item feed lead sp : Int} (hst : bd 67108864 st) (hpts : ∀ p ∈ pts, bd 67108864 p)
  (hM : MSm (itmR it) = some [B (decide (smI it))]) (hC : MM (itmR it) = some (ptR (Qca it)))
  (hA : ∀ {segs : List Sgm} {q at_ : Pt} {len mid : Int}, endOf st segs = at_ -> bd 67108864 at_ -> bd 67108864 q -> segs.length + 1 <= 1048577 -> (0 <= len /\ len <= 4000000000000000000) ->
   MA [.view kSgm (segs.map sgmR), .view kMrk marks, I q.x, I q.y, I q.z, I g.x, I g.y, I g.z, I gl, I item, I feed, I lead, I st.x, I st.y, I st.z, B true, I len, I sp, I mid] =
   some [.view kSgm ((Qgc item feed lead (segs, len, at_) q).1.map sgmR), .view kMrk marks, I st.x, I st.y, I st.z, B true, I (Qgc item feed lead (segs, len, at_) q).2.1, I sp, I mid]) :
  ∀ (k j : Nat) (s : List Sgm × Int × Pt) (mid : Int), j + k = pts.length -> s.1.length + k <= 1048576 -> 0 <= s.2.1 -> s.2.1 + k * 268435456 <= 4000000000000000000 -> bd 67108864 s.2.2 -> endOf st s.1 = s.2.2 ->
  Qbl (Qea MM MSm MA MP MG MR) (.view kSgm (s.1.map sgmR) :: .view kMrk marks :: .view kPt (pts.map ptR) :: I pts.length :: I j :: (itmR it ++ [I g.x, I g.y, I g.z, I gl, I item, I feed, I lead, I st.x, I st.y, I st.z, B true, I s.2.1, I sp, I mid])) =
   some (1, [.view kSgm (((pts.drop j).foldl (stepM it item feed lead) (s, mid)).1.1.map sgmR), .view kMrk marks, I st.x, I st.y, I st.z, B true, I ((pts.drop j).foldl (stepM it item feed lead) (s, mid)).1.2.1, I sp, I ((pts.drop j).foldl (stepM it item feed lead) (s, mid)).2])
 | 0, j, s, mid, hj, _, _, _, _, _ => by
  refine Qbn ?_ (by simp)
  simp only [itmR, List.cons_append, List.nil_append]
  rw [st_path_builder_move_6_eq, Qcs (by omega), List.drop_of_length_le (by omega)]
  rfl
 | k + 1, j, s, mid, hj, hs, hl0, hl1, hat, he => by
  have hlt : j < pts.length := by omega
  have hq := hpts _ (List.getElem_mem hlt)
  obtain ⟨segs, len, at_⟩ := s
  simp only at hs hl0 hl1 hat he
  have ha := hA (q := pts[j]) (mid := mid) he hat hq (by omega) (by constructor <;> omega)
  have hstep := st_move (MP := MP) (MG := MG) (MR := MR) hlt hpl hM hC ha
  have hinv : endOf st (Qgc item feed lead (segs, len, at_) pts[j]).1 = (Qgc item feed lead (segs, len, at_) pts[j]).2.2 /\ bd 67108864 (Qgc item feed lead (segs, len, at_) pts[j]).2.2 /\
    (Qgc item feed lead (segs, len, at_) pts[j]).1.length <= segs.length + 1 /\ 0 <= (Qgc item feed lead (segs, len, at_) pts[j]).2.1 /\ (Qgc item feed lead (segs, len, at_) pts[j]).2.1 <= len + 268435456 := by
   have hl := len_bd hat hq
   unfold Qgc
   split
   ·exact ⟨he, hat, by simp, hl0, by simp only; omega⟩
   ·refine ⟨endOf_snoc _ _ _, hq, by simp, ?_, ?_⟩ <;> simp only <;> omega
  rw [Qbk hstep]
  obtain ⟨i1, i2, i3, i4, i5⟩ := hinv
  have := l_move (MP := MP) (MG := MG) (MR := MR) hpl hst hpts hM hC hA k (j + 1) (Qgc item feed lead (segs, len, at_) pts[j]) (if smI it /\ pts[j] = Qca it then (Qgc item feed lead (segs, len, at_) pts[j]).2.1 else mid) (by omega) (by omega) i4 (by omega) i2 i1
  rw [this, getElem_take_drop pts j hlt, List.foldl_cons]
  rfl
theorem chords_head {it : Itm} (h : Qhf it) : ∃ l, Qfv it = fine it.fr :: l := by
 unfold Qfv
 by_cases h3 : it.kind = 3
 ·rw [if_pos h3]
  unfold Qfw
  rw [List.map_cons]
  refine ⟨(pcsL it.dir 16 it.full (endS it it.fr) (endS it it.to)).map (chPt it), ?_⟩
  congr 1
  obtain ⟨hp, -, hc, -⟩ := h.2.2.2 h3
  obtain ⟨f1, f2, f3⟩ := pl_fine it.plane it.ce
  unfold chPt endS
  simp only [f1, f2]
  unfold dU dW
  have e1 : plU it.plane it.ce * 16 + (plU it.plane it.fr - plU it.plane it.ce) * 16 = plU it.plane it.fr * 16 := by omega
  have e2 : plW it.plane it.ce * 16 + (plW it.plane it.fr - plW it.plane it.ce) * 16 = plW it.plane it.fr * 16 := by omega
  rw [e1, e2]
  unfold spP plU plW plH fine
  rcases hp with hp | hp | hp <;> rw [hp] <;> rfl
 ·rw [if_neg h3]; exact ⟨_, rfl⟩
theorem points_head {items : List Itm} {i : Nat} (h : Qhf (itA items i)) : ∃ l, Qd9 items i (-1) = fine (itA items i).fr :: l := by
 obtain ⟨l, hl⟩ := chords_head h
 unfold Qd9
 split
 ·unfold headP
  rw [if_neg (by omega), hl]
  exact ⟨_, rfl⟩
 ·exact ⟨l, hl⟩
noncomputable def motM (items : List Itm) (i : Nat) (s : BSt) (mid : Int) : (List Sgm × Int × Pt) × Int :=
 (Qd9 items i s.frm).foldl (stepM (itA items i) i (rate (itA items i) s.speed) (leadI (itA items i))) ((s.segs, s.len, if s.begun = true then s.at_ else fine (itA items i).fr), mid)
theorem motM_fst (items : List Itm) (i : Nat) (s : BSt) (mid : Int) : (motM items i s mid).1 = motS items i s := by
 unfold motM motS
 rw [stepM_fst]
theorem a_path_move {MM MSm MA MP MG MR : List AC -> Option (List AC)} {items : List Itm} {i : Nat} {s : BSt} {marks : List (List AC)} {mid : Int} (hi : i < items.length) (hlen : items.length <= 15) (hv : Qhf (itA items i)) (hok : BOK items i s) (hinv : BInv s)
  (hpts : (∀ p ∈ Qd9 items i s.frm, bd 67108864 p) /\ (Qd9 items i s.frm).length <= 65537)
  (hfeed : syI (itA items i) -> 0 <= (itA items i).feed /\ (itA items i).feed <= 60000000) (hfrm : s.begun = false -> s.frm = -1)
  (hM : MSm (itmR (itA items i)) = some [B (decide (smI (itA items i)))]) (hC : MM (itmR (itA items i)) = some (ptR (Qca (itA items i))))
  (hG : MG (itmR (itA items i)) = some [B (decide (syI (itA items i)))]) (hR : MR (itmR (itA items i) ++ [I s.speed]) = some [I (rate (itA items i) s.speed)])
  (hP : MP [.view kItm (items.map itmR), I i, I s.frm] = some [.view kPt ((Qd9 items i s.frm).map ptR)])
  (hA : ∀ {segs : List Sgm} {q g st at_ : Pt} {gl item feed lead len mid : Int}, endOf st segs = at_ -> bd 67108864 at_ -> bd 67108864 q -> segs.length + 1 <= 1048577 -> (0 <= len /\ len <= 4000000000000000000) ->
   MA [.view kSgm (segs.map sgmR), .view kMrk marks, I q.x, I q.y, I q.z, I g.x, I g.y, I g.z, I gl, I item, I feed, I lead, I st.x, I st.y, I st.z, B true, I len, I s.speed, I mid] =
   some [.view kSgm ((Qgc item feed lead (segs, len, at_) q).1.map sgmR), .view kMrk marks, I st.x, I st.y, I st.z, B true, I (Qgc item feed lead (segs, len, at_) q).2.1, I s.speed, I mid])
  (hA0 : ∀ {q g st : Pt} {gl item feed lead len mid : Int}, MA [.view kSgm [], .view kMrk marks, I q.x, I q.y, I q.z, I g.x, I g.y, I g.z, I gl, I item, I feed, I lead, I st.x, I st.y, I st.z, B false, I len, I s.speed, I mid] =
   some [.view kSgm [], .view kMrk marks, I q.x, I q.y, I q.z, B true, I len, I s.speed, I mid]) :
  mf_path_builder_move MM MSm MA MP MG MR (Qbl (Qea MM MSm MA MP MG MR)) [.view kSgm (s.segs.map sgmR), .view kMrk marks, .view kItm (items.map itmR), I i, I s.frm, I s.start.x, I s.start.y, I s.start.z, B s.begun, I s.len, I s.speed, I mid] =
   some [.view kSgm ((motM items i s mid).1.1.map sgmR), .view kMrk marks, B true, I (if s.begun = true then s.start else fine (itA items i).fr).x, I (if s.begun = true then s.start else fine (itA items i).fr).y, I (if s.begun = true then s.start else fine (itA items i).fr).z, B true, I (motM items i s mid).1.2.1, I s.speed, I (motM items i s mid).2] := by
 have hr := Qgb hi
 have hin : (0 : Int) <= (i : Int) /\ (i : Int) < (items.length : Int) := by omega
 have hsg := hok.segs
 have hln := hok.len
 -- the loop's answer, whatever the lead
 have hloop : ∀ lead feed : Int, Qbl (Qea MM MSm MA MP MG MR) (.view kSgm (s.segs.map sgmR) :: .view kMrk marks :: .view kPt ((Qd9 items i s.frm).map ptR) :: I (Qd9 items i s.frm).length :: I (0 : Nat) :: (itmR (itA items i) ++ [I (⟨0, 0, 0⟩ : Pt).x, I (⟨0, 0, 0⟩ : Pt).y, I (⟨0, 0, 0⟩ : Pt).z, I 0, I i, I feed, I lead, I s.start.x, I s.start.y, I s.start.z, B s.begun, I s.len, I s.speed, I mid])) =
   some (1, [.view kSgm (((Qd9 items i s.frm).foldl (stepM (itA items i) i feed lead) ((s.segs, s.len, if s.begun = true then s.at_ else fine (itA items i).fr), mid)).1.1.map sgmR), .view kMrk marks, I (if s.begun = true then s.start else fine (itA items i).fr).x, I (if s.begun = true then s.start else fine (itA items i).fr).y, I (if s.begun = true then s.start else fine (itA items i).fr).z, B true,
    I ((Qd9 items i s.frm).foldl (stepM (itA items i) i feed lead) ((s.segs, s.len, if s.begun = true then s.at_ else fine (itA items i).fr), mid)).1.2.1, I s.speed, I ((Qd9 items i s.frm).foldl (stepM (itA items i) i feed lead) ((s.segs, s.len, if s.begun = true then s.at_ else fine (itA items i).fr), mid)).2]) := by
  intro lead feed
  by_cases hb : s.begun = true
  ·obtain ⟨g1, g2⟩ := hinv.begun hb
   obtain ⟨g3, g4, g5⟩ := g2
   rw [if_pos hb, if_pos hb, hb]
   have := l_move (MP := MP) (MG := MG) (MR := MR) (g := ⟨0, 0, 0⟩) (gl := 0) (item := i) (feed := feed) (lead := lead) (by omega) g1 hpts.1 hM hC (fun h1 h2 h3 h4 h5 => hA h1 h2 h3 h4 h5) (Qd9 items i s.frm).length 0 (s.segs, s.len, s.at_) mid (by omega) (by simp only; omega) hln.1 (by simp only; omega) (hok.at_ hb) g4
   rw [List.drop_zero] at this
   exact this
  ·have hb2 : s.begun = false := by simpa using hb
   obtain ⟨e1, e2, e3⟩ := hinv.empty hb2
   obtain ⟨l, hl⟩ := points_head hv
   have hfr : bd 67108864 (fine (itA items i).fr) := Qcb (fine_bd hv.2.1) (by decide)
   rw [if_neg hb, if_neg hb, hb2, e1]
   rw [hfrm hb2, hl] at hpts ⊢
   have h0 : 0 < (fine (itA items i).fr :: l).length := by simp
   have hstep := st_move (MP := MP) (MG := MG) (MR := MR) h0 (by omega) hM hC (hA0 (q := fine (itA items i).fr) (g := ⟨0, 0, 0⟩) (st := s.start) (gl := 0) (item := i) (feed := feed) (lead := lead) (len := s.len) (mid := mid))
   rw [List.map_nil, Qbk hstep]
   have := l_move (MP := MP) (MG := MG) (MR := MR) (g := ⟨0, 0, 0⟩) (gl := 0) (item := i) (feed := feed) (lead := lead) (by omega) hfr hpts.1 hM hC (fun h1 h2 h3 h4 h5 => hA h1 h2 h3 h4 h5) l.length 1 ([], s.len, fine (itA items i).fr) (if smI (itA items i) /\ fine (itA items i).fr = Qca (itA items i) then s.len else mid) (by simp; omega) (by simp only [List.length_nil]; simp at hpts; omega) hln.1 (by simp only; simp at hpts; omega) hfr rfl
   rw [List.drop_succ_cons, List.drop_zero] at this
   rw [List.foldl_cons]
   have e4 : stepM (itA items i) i feed lead (([], s.len, fine (itA items i).fr), mid) (fine (itA items i).fr) = (([], s.len, fine (itA items i).fr), if smI (itA items i) /\ fine (itA items i).fr = Qca (itA items i) then s.len else mid) := by
    unfold stepM
    rw [show Qgc i feed lead ([], s.len, fine (itA items i).fr) (fine (itA items i).fr) = ([], s.len, fine (itA items i).fr) from if_pos rfl]
   rw [e4]
   exact this
 have hcount : ∀ lead feed : Int, ((Qd9 items i s.frm).foldl (stepM (itA items i) i feed lead) ((s.segs, s.len, if s.begun = true then s.at_ else fine (itA items i).fr), mid)).1.1.length <= 1048576 := by
  intro lead feed
  rw [stepM_fst]
  have hat : bd 67108864 (if s.begun = true then s.at_ else fine (itA items i).fr) := by
   split
   ·rename_i hb; exact hok.at_ hb
   ·exact Qcb (fine_bd hv.2.1) (by decide)
  have := (fold_bd (item := i) (feed := feed) (lead := lead) (Qd9 items i s.frm) (s.segs, s.len, if s.begun = true then s.at_ else fine (itA items i).fr) hpts.1 hat hln.1).1
  simp only at this ⊢
  omega
 generalize Qbl (Qea MM MSm MA MP MG MR) = N at *
 have hlp := fun lead feed => hloop lead feed
 simp only [itmR, List.cons_append, List.nil_append] at hG hR hlp
 rw [mf_path_builder_move_eq]
 simp only [go_sem, List.length_map, Int.toNat_natCast, hr, if_pos hin, hG, hR, hP]
 have h00 : ((0 : Nat) : Int) = 0 := rfl
 simp only [h00] at hlp
 unfold motM leadI
 by_cases hs : syI (itA items i)
 ·have hf := hfeed hs
  rw [if_pos hs]
  simp only [if_pos hs]
  rw [Qab (by omega)]
  simp only [hlp, go_sem, List.length_map]
  rw [decide_eq_true (show ((_ : Nat) : Int) <= 1048576 from by have := hcount (mn ((itA items i).feed * 16) 16777216) (rate (itA items i) s.speed); omega)]
 ·rw [if_neg hs]
  simp only [if_neg hs]
  simp only [hlp, go_sem, List.length_map]
  rw [decide_eq_true (show ((_ : Nat) : Int) <= 1048576 from by have := hcount 0 (rate (itA items i) s.speed); omega)]
end Go.Bm
