/- laid together -/
import Derived.Test.YtdllaekpkcanbaaGreatPrRate0
import Derived.Test.YtdllaekpkcanbaaGreatMx6
import Derived.Test.YtdllaekpkcanbaaGreatPrOv
import Derived.Test.YtdllaekpkcanbaaGreatPrI3
set_option linter.unusedVariables false
set_option linter.unusedSimpArgs false
/- the reference's points of a motion -/
set_option maxRecDepth 100000
namespace Go.Bm

def it0 : Itm := ⟨0, 0, ⟨0, 0, 0⟩, ⟨0, 0, 0⟩, 0, ⟨0, 0, 0⟩, 0, false, 0, false, 0, 0, 0, 0, 0, false⟩
def itA (items : List Itm) (i : Nat) : Itm := items.getD i it0
theorem itA_get {items : List Itm} {i : Nat} (h : i < items.length) : itA items i = items[i] := by unfold itA; simp [h]
theorem itA_mem {items : List Itm} {i : Nat} (h : i < items.length) : itA items i ∈ items := by rw [itA_get h]; exact List.getElem_mem h
theorem row_itA {items : List Itm} {i : Nat} (h : i < items.length) : nth [] (items.map itmR) i = itmR (itA items i) := by rw [itA_get h]; exact nth_map _ _ _ _ h
theorem drop_itA {items : List Itm} {i : Nat} (h : i < items.length) : items.drop i = itA items i :: items.drop (i + 1) := by rw [itA_get h]; exact getElem_take_drop _ _ h
def motI (it : Itm) : Prop := 1 <= it.kind /\ it.kind <= 6
def smI (it : Itm) : Prop := it.kind = 2 /\ it.fr ≠ it.to
def syI (it : Itm) : Prop := it.kind = 5 \/ it.kind = 6
instance (it : Itm) : Decidable (motI it) := by unfold motI; infer_instance
instance (it : Itm) : Decidable (smI it) := by unfold smI; infer_instance
instance (it : Itm) : Decidable (syI it) := by unfold syI; infer_instance
theorem s_Smooth (it : Itm) : m_cncref25_Smooth (itmR it) = some [B (decide (smI it))] := by
 unfold m_cncref25_Smooth
 rw [mf_cncref25_Smooth_eq]
 by_cases h : it.kind = 2
 ·rw [bif_true (by simp [h])]
  congr 2
  by_cases h2 : it.fr = it.to
  ·have h3 := pt_ext.1 h2
   rw [decide_eq_false (fun hs : smI it => hs.2 h2)]
   simp [h3.1, h3.2.1, h3.2.2]
  ·rw [decide_eq_true (show smI it from ⟨h, h2⟩)]
   have h3 : ¬ (it.fr.x = it.to.x /\ it.fr.y = it.to.y /\ it.fr.z = it.to.z) := fun h3 => h2 (pt_ext.2 h3)
   simp only [B, AC.bool.injEq, Bool.not_eq_true', Bool.and_true]
   by_cases a : it.fr.x = it.to.x <;> by_cases b : it.fr.y = it.to.y <;> by_cases c : it.fr.z = it.to.z <;> simp [a, b, c] at h3 ⊢
 ·rw [bif_false (by simp [h]), decide_eq_false (fun hs : smI it => h hs.1)]
def centerP (it : Itm) : Pt := ⟨(it.fr.x + it.to.x) * 8, (it.fr.y + it.to.y) * 8, (it.fr.z + it.to.z) * 8⟩
theorem center_bd {it : Itm} (h1 : bd 1048576 it.fr) (h2 : bd 1048576 it.to) : bd B24 (centerP it) := by
 unfold bd B24 centerP at *
 simp only
 omega
theorem s_Center {it : Itm} (h1 : bd 1048576 it.fr) (h2 : bd 1048576 it.to) : m_cncref25_Center (itmR it) = some (ptR (centerP it)) := by
 obtain ⟨a1, a2, a3⟩ := h1
 obtain ⟨b1, b2, b3⟩ := h2
 unfold m_cncref25_Center
 rw [mf_cncref25_Center_eq, wrap_id (x := it.fr.x + it.to.x) (by omega), wrap_id (x := (it.fr.x + it.to.x) * 8) (by omega), wrap_id (x := it.fr.y + it.to.y) (by omega), wrap_id (x := (it.fr.y + it.to.y) * 8) (by omega), wrap_id (x := it.fr.z + it.to.z) (by omega), wrap_id (x := (it.fr.z + it.to.z) * 8) (by omega)]
 rfl
def nextSm : List Itm -> Nat -> Int
 | [], _ => -1
 | it :: l, k => if it.kind = 10 then nextSm l (k + 1) else if smI it then k else -1
def softK (items : List Itm) (i : Nat) : Int := if smI (itA items i) /\ (itA items i).blend ≠ 0 then nextSm (items.drop (i + 1)) (i + 1) else -1
theorem nextSm_spec : ∀ (l : List Itm) (k : Nat), nextSm l k = -1 \/ ∃ j : Nat, nextSm l k = ((k + j : Nat) : Int) /\ ∃ h : j < l.length, smI l[j] /\ ∀ i (hi : i < l.length), i < j -> l[i].kind = 10
 | [], _ => .inl rfl
 | it :: l, k => by
  unfold nextSm
  split
  ·rename_i h10
   rcases nextSm_spec l (k + 1) with h | ⟨j, h1, h2, h3, h4⟩
   ·exact .inl h
   ·refine .inr ⟨j + 1, by rw [h1]; omega, by simp; omega, by simpa using h3, ?_⟩
    intro i hi hij
    cases i with
    | zero => simpa using h10
    | succ i => simpa using h4 i (by simpa using hi) (by omega)
  ·split
   ·rename_i hs
    exact .inr ⟨0, by simp, by simp, by simpa using hs, fun i _ hi => by omega⟩
   ·exact .inl rfl
theorem softK_spec (items : List Itm) (i : Nat) : softK items i = -1 \/ (smI (itA items i) /\ (itA items i).blend ≠ 0 /\ ∃ k : Nat, softK items i = k /\ i < k /\ k < items.length /\ smI (itA items k) /\ ∀ j, i < j -> j < k -> (itA items j).kind = 10) := by
 unfold softK
 split
 ·rename_i h
  rcases nextSm_spec (items.drop (i + 1)) (i + 1) with h1 | ⟨j, h1, h2, h3, h4⟩
  ·exact .inl h1
  ·have h5 : i + 1 + j < items.length := by rw [List.length_drop] at h2; omega
   refine .inr ⟨h.1, h.2, i + 1 + j, h1, by omega, h5, ?_, ?_⟩
   ·rw [itA_get h5]
    rw [List.getElem_drop] at h3
    exact h3
   ·intro m hm1 hm2
    have := h4 (m - (i + 1)) (by omega) (by omega)
    rw [List.getElem_drop] at this
    rw [itA_get (by omega)]
    have e : i + 1 + (m - (i + 1)) = m := by omega
    simp only [e] at this
    exact this
 ·exact .inl rfl
theorem l_Soft {M : List AC -> Option (List AC)} {items : List Itm} (hM : ∀ it, M (itmR it) = some [B (decide (smI it))]) (hl : items.length <= 1000000) : ∀ (k i : Nat), i + k = items.length ->
  (loopC (st_cncref25_Soft_4 M) [.view kItm (items.map itmR), I i] = some (1, [I (nextSm (items.drop i) i)])) \/ (loopC (st_cncref25_Soft_4 M) [.view kItm (items.map itmR), I i] = some (2, []) /\ nextSm (items.drop i) i = -1)
 | 0, i, hi => by
  right
  refine ⟨loop_end ?_ (by simp), by rw [List.drop_of_length_le (by omega)]; rfl⟩
  rw [st_cncref25_Soft_4_eq]
  simp only [go_sem, List.length_map]
  rw [if_neg (by omega)]
 | k + 1, i, hi => by
  have hlt : i < items.length := by omega
  have hr := row_itA hlt
  rw [drop_itA hlt]
  have hs := hM (itA items i)
  have hst : st_cncref25_Soft_4 M [.view kItm (items.map itmR), I i] = if (itA items i).kind = 10 then some (0, [.view kItm (items.map itmR), I (i + 1 : Nat)]) else if smI (itA items i) then some (1, [I i]) else some (1, [I (-1)]) := by
   rw [st_cncref25_Soft_4_eq]
   simp only [itmR] at hs
   have hin : (0 : Int) <= (i : Int) /\ (i : Int) < (items.length : Int) := by omega
   simp only [go_sem, List.length_map, Int.toNat_natCast, hr, hs, if_pos hin]
   rw [if_pos (by omega), wrap_id (by omega)]
   rfl
  unfold nextSm
  by_cases h10 : (itA items i).kind = 10
  ·rw [if_pos h10] at hst ⊢
   rw [loop_more hst]
   exact l_Soft hM hl k (i + 1) (by omega)
  ·rw [if_neg h10] at hst ⊢
   left
   by_cases hsm : smI (itA items i)
   ·rw [if_pos hsm] at hst ⊢
    exact loop_end hst (by simp)
   ·rw [if_neg hsm] at hst ⊢
    exact loop_end hst (by simp)
theorem a_Soft {M : List AC -> Option (List AC)} {items : List Itm} (hM : ∀ it, M (itmR it) = some [B (decide (smI it))]) (hl : items.length <= 1000000) {i : Nat} (hi : i < items.length) :
  mf_cncref25_Soft M (loopC (st_cncref25_Soft_4 M)) [.view kItm (items.map itmR), I i] = some [I (softK items i)] := by
 have hr := row_itA hi
 have hs := hM (itA items i)
 have hL := l_Soft hM hl (items.length - (i + 1)) (i + 1) (by omega)
 rw [mf_cncref25_Soft_eq]
 simp only [itmR] at hs
 have hw : IntKind.i64.wrap ((i : Int) + 1) = ((i + 1 : Nat) : Int) := by rw [wrap_id (by omega)]; omega
 unfold softK
 have hin : (0 : Int) <= (i : Int) /\ (i : Int) < (items.length : Int) := by omega
 simp only [go_sem, List.length_map, Int.toNat_natCast, hr, hs, hw, if_pos hin]
 by_cases h1 : smI (itA items i)
 ·rw [if_neg (by simp [h1])]
  by_cases h2 : (itA items i).blend = 0
  ·rw [if_pos h2, if_neg (fun h => h.2 h2)]
  ·rw [if_neg h2, if_pos ⟨h1, h2⟩]
   rcases hL with hL | ⟨hL, hn⟩
   ·simp only [hL, go_sem]
   ·simp only [hL, go_sem, hn]
    simp
 ·rw [if_pos (by simp [h1]), if_neg (fun h => h1 h.1)]
theorem s_Soft {items : List Itm} (hl : items.length <= 1000000) {i : Nat} (hi : i < items.length) : m_cncref25_Soft [.view kItm (items.map itmR), I i] = some [I (softK items i)] := a_Soft s_Smooth hl hi
theorem s_sync (it : Itm) : m_cncref25_synchronized (itmR it) = some [B (decide (syI it))] := by
 unfold m_cncref25_synchronized
 rw [mf_cncref25_synchronized_eq]
 by_cases h5 : it.kind = 5
 ·rw [bif_true (by simp [h5]), decide_eq_true (show syI it from .inl h5)]
 ·rw [bif_false (by simp [h5])]
  by_cases h6 : it.kind = 6
  ·rw [decide_eq_true (show syI it from .inr h6)]; simp [h6]
  ·rw [decide_eq_false (show ¬ syI it from fun h => h.elim h5 h6)]; simp [h6]
def otherK (it : Itm) : Int := if it.kind = 10 then 5 else if it.kind = 13 then 4 else 3
theorem s_other (it : Itm) : m_cncref25_other (itmR it) = some [I (otherK it)] := by
 unfold m_cncref25_other otherK
 rw [mf_cncref25_other_eq]
 simp only [go_sem]
 split
 ·rfl
 ·split <;> rfl
def nextSy : List Itm -> Int
 | [] => 2
 | it :: l => if motI it then (if syI it then 1 else 2) else nextSy l
def kindK (items : List Itm) (i : Nat) : Int := if (itA items i).kind = 4 then 6 else if (itA items i).blend = 0 then 1 else if syI (itA items i) then 1 else nextSy (items.drop (i + 1))
theorem l_kind {MM MS : List AC -> Option (List AC)} {items : List Itm} (hM : ∀ k : Int, MM [I k] = some [B (decide (1 <= k /\ k <= 6))]) (hS : ∀ it, MS (itmR it) = some [B (decide (syI it))]) (hl : items.length <= 1000000) : ∀ (k i : Nat), i + k = items.length ->
  (loopC (st_cncref25_kind_6 MM MS) [.view kItm (items.map itmR), I i] = some (1, [I (nextSy (items.drop i))])) \/ (loopC (st_cncref25_kind_6 MM MS) [.view kItm (items.map itmR), I i] = some (2, []) /\ nextSy (items.drop i) = 2)
 | 0, i, hi => by
  right
  refine ⟨loop_end ?_ (by simp), by rw [List.drop_of_length_le (by omega)]; rfl⟩
  rw [st_cncref25_kind_6_eq]
  simp only [go_sem, List.length_map]
  rw [if_neg (by omega)]
 | k + 1, i, hi => by
  have hlt : i < items.length := by omega
  have hr := row_itA hlt
  rw [drop_itA hlt]
  have hs := hS (itA items i)
  have hm := hM (itA items i).kind
  have hst : st_cncref25_kind_6 MM MS [.view kItm (items.map itmR), I i] = if motI (itA items i) then (if syI (itA items i) then some (1, [I 1]) else some (2, [])) else some (0, [.view kItm (items.map itmR), I (i + 1 : Nat)]) := by
   rw [st_cncref25_kind_6_eq]
   simp only [itmR] at hs
   have hin : (0 : Int) <= (i : Int) /\ (i : Int) < (items.length : Int) := by omega
   simp only [go_sem, List.length_map, Int.toNat_natCast, hr, hs, hm, if_pos hin]
   rw [if_pos (by omega), wrap_id (by omega)]
   by_cases h1 : motI (itA items i)
   ·rw [if_pos (show 1 <= (itA items i).kind /\ (itA items i).kind <= 6 from h1), if_pos h1]
   ·rw [if_neg (show ¬ (1 <= (itA items i).kind /\ (itA items i).kind <= 6) from h1), if_neg h1]; rfl
  unfold nextSy
  by_cases h10 : motI (itA items i)
  ·rw [if_pos h10] at hst ⊢
   by_cases hsm : syI (itA items i)
   ·rw [if_pos hsm] at hst ⊢
    exact .inl (loop_end hst (by simp))
   ·rw [if_neg hsm] at hst ⊢
    exact .inr ⟨loop_end hst (by simp), rfl⟩
  ·rw [if_neg h10] at hst ⊢
   rw [loop_more hst]
   exact l_kind hM hS hl k (i + 1) (by omega)
theorem a_kind {MM MS : List AC -> Option (List AC)} {items : List Itm} (hM : ∀ k : Int, MM [I k] = some [B (decide (1 <= k /\ k <= 6))]) (hS : ∀ it, MS (itmR it) = some [B (decide (syI it))]) (hl : items.length <= 1000000) {i : Nat} (hi : i < items.length) :
  mf_cncref25_kind MM MS (loopC (st_cncref25_kind_6 MM MS)) [.view kItm (items.map itmR), I i] = some [I (kindK items i)] := by
 have hr := row_itA hi
 have hs := hS (itA items i)
 have hL := l_kind hM hS hl (items.length - (i + 1)) (i + 1) (by omega)
 rw [mf_cncref25_kind_eq]
 simp only [itmR] at hs
 have hw : IntKind.i64.wrap ((i : Int) + 1) = ((i + 1 : Nat) : Int) := by rw [wrap_id (by omega)]; omega
 unfold kindK
 have hin : (0 : Int) <= (i : Int) /\ (i : Int) < (items.length : Int) := by omega
 simp only [go_sem, List.length_map, Int.toNat_natCast, hr, hs, hw, if_pos hin]
 by_cases h1 : (itA items i).kind = 4
 ·rw [if_pos h1, if_pos h1]
 ·rw [if_neg h1, if_neg h1]
  by_cases h2 : (itA items i).blend = 0
  ·rw [if_pos h2, if_pos h2]
  ·rw [if_neg h2, if_neg h2]
   by_cases h3 : syI (itA items i)
   ·simp only [if_pos h3]
   ·simp only [if_neg h3]
    rcases hL with hL | ⟨hL, hn⟩
    ·simp only [hL, go_sem]
    ·simp only [hL, go_sem, hn]
     simp
theorem s_kind {items : List Itm} (hl : items.length <= 1000000) {i : Nat} (hi : i < items.length) : m_cncref25_kind [.view kItm (items.map itmR), I i] = some [I (kindK items i)] := a_kind s_cncref23_Motion s_sync hl hi

noncomputable def joinedP (items : List Itm) (i k : Nat) : List Pt := cornerP (centerP (itA items i)) (fine (itA items i).to) (centerP (itA items k)) ((itA items i).blend * 16)
def drawn (it : Itm) : Prop := validI it /\ 0 <= it.blend /\ it.blend <= 1000
theorem a_joined {MC MF MM : List AC -> Option (List AC)} {items : List Itm} {i k : Nat} (hi : i < items.length) (hk : k < items.length) (h1 : drawn (itA items i))
  (c1 : MM (itmR (itA items i)) = some (ptR (centerP (itA items i)))) (c2 : MM (itmR (itA items k)) = some (ptR (centerP (itA items k)))) (f1 : MF [I (itA items i).to.x, I (itA items i).to.y, I (itA items i).to.z] = some (ptR (fine (itA items i).to)))
  (hC : MC (ptR (centerP (itA items i)) ++ ptR (fine (itA items i).to) ++ ptR (centerP (itA items k)) ++ [I ((itA items i).blend * 16)]) = some [.view kPt ((joinedP items i k).map ptR)]) :
  mf_cncref25_joined MC MF MM [.view kItm (items.map itmR), I i, I k] = some [.view kPt ((joinedP items i k).map ptR)] := by
 have r1 := row_itA hi
 have r2 := row_itA hk
 obtain ⟨-, b1, b2⟩ := h1
 rw [mf_cncref25_joined_eq]
 simp only [itmR] at c1 c2
 simp only [ptR, List.cons_append, List.nil_append] at hC
 have hin : (0 : Int) <= (i : Int) /\ (i : Int) < (items.length : Int) := by omega
 have hin2 : (0 : Int) <= (k : Int) /\ (k : Int) < (items.length : Int) := by omega
 simp only [go_sem, List.length_map, Int.toNat_natCast, r1, r2, c1, c2, f1, if_pos hin, if_pos hin2]
 rw [wrap_id (by omega)]
 simp only [hC, go_sem]
theorem s_joined {items : List Itm} {i k : Nat} (hi : i < items.length) (hk : k < items.length) (h1 : drawn (itA items i)) (h2 : drawn (itA items k)) :
  m_cncref25_joined [.view kItm (items.map itmR), I i, I k] = some [.view kPt ((joinedP items i k).map ptR)] :=
 a_joined hi hk h1 (s_Center h1.1.2.1 h1.1.2.2.1) (s_Center h2.1.2.1 h2.1.2.2.1) (s_Fine (bd_mono h1.1.2.2.1 (by decide)))
  (s_cncref24_Corner (center_bd h1.1.2.1 h1.1.2.2.1) (fine_bd h1.1.2.2.1) (center_bd h2.1.2.1 h2.1.2.2.1) (by have := h1.2; omega))
theorem joined_bd {items : List Itm} {i k : Nat} (h1 : drawn (itA items i)) (h2 : drawn (itA items k)) : (∀ p ∈ joinedP items i k, bd B24 p) /\ 1 <= (joinedP items i k).length /\ (joinedP items i k).length <= 65 :=
 corner_bd (center_bd h1.1.2.1 h1.1.2.2.1) (fine_bd h1.1.2.2.1) (center_bd h2.1.2.1 h2.1.2.2.1)
noncomputable def headP (items : List Itm) (i : Nat) (frm : Int) : List Pt := if 0 <= frm then (joinedP items frm.toNat i).drop ((joinedP items frm.toNat i).length / 2) else (chordsP (itA items i)).take 1
noncomputable def tailP (items : List Itm) (i : Nat) : List Pt := if 0 <= softK items i then (joinedP items i (softK items i).toNat).take ((joinedP items i (softK items i).toNat).length / 2 + 1) else (chordsP (itA items i)).drop 1
noncomputable def pointsP (items : List Itm) (i : Nat) (frm : Int) : List Pt := if smI (itA items i) then headP items i frm ++ [centerP (itA items i)] ++ tailP items i else chordsP (itA items i)
def frmOK (items : List Itm) (i : Nat) (frm : Int) : Prop := frm = -1 \/ ∃ f : Nat, frm = f /\ f < items.length /\ drawn (itA items f)
theorem head_bd {items : List Itm} {i : Nat} {frm : Int} (hd : drawn (itA items i)) (hf : frmOK items i frm) : (∀ p ∈ headP items i frm, bd 67108864 p) /\ (headP items i frm).length <= 65 := by
 unfold headP
 rcases hf with rfl | ⟨f, rfl, hf1, hf2⟩
 ·rw [if_neg (by omega)]
  exact ⟨fun p hp => chordsP_bd hd.1 p (List.mem_of_mem_take hp), by rw [List.length_take]; omega⟩
 ·rw [if_pos (by omega)]
  obtain ⟨h1, h2, h3⟩ := joined_bd (items := items) (i := (f : Int).toNat) (k := i) (by simpa using hf2) hd
  exact ⟨fun p hp => bd_mono (h1 p (List.mem_of_mem_drop hp)) (by decide), by rw [List.length_drop]; omega⟩
theorem soft_get {items : List Itm} {i : Nat} (hall : ∀ k < items.length, motI (itA items k) -> drawn (itA items k)) (hs : 0 <= softK items i) : ∃ k : Nat, softK items i = k /\ k < items.length /\ drawn (itA items k) := by
 rcases softK_spec items i with h | ⟨-, -, k, h1, -, h2, h3, -⟩
 ·omega
 ·exact ⟨k, h1, h2, hall k h2 ⟨by have := h3.1; omega, by have := h3.1; omega⟩⟩
theorem tail_bd {items : List Itm} {i : Nat} (hd : drawn (itA items i)) (h2 : (itA items i).kind ≠ 3) (hall : ∀ k < items.length, motI (itA items k) -> drawn (itA items k)) : (∀ p ∈ tailP items i, bd 67108864 p) /\ (tailP items i).length <= 66 := by
 unfold tailP
 by_cases h : 0 <= softK items i
 ·rw [if_pos h]
  obtain ⟨k, hk, hk1, hk2⟩ := soft_get hall h
  obtain ⟨h1, h2, h3⟩ := joined_bd (items := items) (i := i) (k := (softK items i).toNat) hd (by rw [hk]; simpa using hk2)
  exact ⟨fun p hp => bd_mono (h1 p (List.mem_of_mem_take hp)) (by decide), by rw [List.length_take]; omega⟩
 ·rw [if_neg h]
  refine ⟨fun p hp => chordsP_bd hd.1 p (List.mem_of_mem_drop hp), ?_⟩
  unfold chordsP
  rw [if_neg h2]
  simp
theorem points_bd {items : List Itm} {i : Nat} {frm : Int} (hd : drawn (itA items i)) (hf : frmOK items i frm) (hall : ∀ k < items.length, motI (itA items k) -> drawn (itA items k)) :
  (∀ p ∈ pointsP items i frm, bd 67108864 p) /\ (pointsP items i frm).length <= 65537 := by
 unfold pointsP
 by_cases hs : smI (itA items i)
 ·rw [if_pos hs]
  obtain ⟨h1, h2⟩ := head_bd hd hf
  obtain ⟨h3, h4⟩ := tail_bd hd (by have := hs.1; omega) hall
  refine ⟨fun p hp => ?_, by rw [List.length_append, List.length_append]; simp; omega⟩
  rcases List.mem_append.1 hp with hp | hp
  ·rcases List.mem_append.1 hp with hp | hp
   ·exact h1 p hp
   ·simp at hp; subst hp; exact bd_mono (center_bd hd.1.2.1 hd.1.2.2.1) (by decide)
  ·exact h3 p hp
 ·rw [if_neg hs]
  exact ⟨chordsP_bd hd.1, (chordsP_len _).2⟩
theorem map_drop1 (l : List Pt) : List.drop (Int.toNat 1) (l.map ptR) = (l.drop 1).map ptR := by rw [show Int.toNat 1 = 1 from rfl, List.map_drop]
theorem map_take1 (l : List Pt) : List.take (Int.toNat 1) (l.map ptR) = (l.take 1).map ptR := by rw [show Int.toNat 1 = 1 from rfl, List.map_take]
theorem half_len (n : Nat) (h : n <= 1000000) : IntKind.i64.wrap ((n : Int).tdiv 2) = ((n / 2 : Nat) : Int) := by
 rw [Int.tdiv_eq_ediv_of_nonneg (by omega), wrap_id (by omega)]
 omega
theorem a_points {MC MS MJ MM MK : List AC -> Option (List AC)} {items : List Itm} {i : Nat} {frm : Int} (hi : i < items.length) (hd : drawn (itA items i)) (hf : frmOK items i frm) (hall : ∀ k < items.length, motI (itA items k) -> drawn (itA items k))
  (hK : MK (itmR (itA items i)) = some [.view kPt ((chordsP (itA items i)).map ptR), B true]) (hM : MM (itmR (itA items i)) = some [B (decide (smI (itA items i)))])
  (hJ : ∀ {i k : Nat}, i < items.length -> k < items.length -> drawn (itA items i) -> drawn (itA items k) -> MJ [.view kItm (items.map itmR), I i, I k] = some [.view kPt ((joinedP items i k).map ptR)])
  (hS : MS [.view kItm (items.map itmR), I i] = some [I (softK items i)]) (hC : MC (itmR (itA items i)) = some (ptR (centerP (itA items i)))) :
  mf_cncref25_points MC MS MJ MM MK [.view kItm (items.map itmR), I i, I frm] = some [.view kPt ((pointsP items i frm).map ptR)] := by
 have r1 := row_itA hi
 obtain ⟨hcl1, hcl2⟩ := chordsP_len (itA items i)
 rw [mf_cncref25_points_eq]
 simp only [itmR] at hK hM hC
 have hin : (0 : Int) <= (i : Int) /\ (i : Int) < (items.length : Int) := by omega
 simp only [go_sem, List.length_map, Int.toNat_natCast, r1, hK, hM, hC, hS, List.nil_append, if_pos hin]
 unfold pointsP
 by_cases hs : smI (itA items i)
 case neg => rw [if_pos (by simp [hs]), if_neg hs]
 rw [if_neg (by simp [hs]), if_pos hs]
 have hc1 : (0 : Nat) <= 1 /\ (1 : Int) <= ((chordsP (itA items i)).length : Int) := by omega
 rw [if_pos hc1, if_pos hc1]
 have hk3 : (itA items i).kind ≠ 3 := by have := hs.1; omega
 have hcl3 : (chordsP (itA items i)).length = 2 := by unfold chordsP; rw [if_neg hk3]; rfl
 -- the tail
 have htail : ∀ (X : List Pt), X.length <= 100 -> ∀ {c : Option (List AC)}, (softK items i < 0 -> c = some [.view kPt ((X ++ [centerP (itA items i)] ++ (chordsP (itA items i)).drop 1).map ptR)]) ->
   ((h : 0 <= softK items i) -> c = some [.view kPt ((X ++ [centerP (itA items i)] ++ (joinedP items i (softK items i).toNat).take ((joinedP items i (softK items i).toNat).length / 2 + 1)).map ptR)]) -> c = some [.view kPt ((X ++ [centerP (itA items i)] ++ tailP items i).map ptR)] := by
  intro X _ c h1 h2
  unfold tailP
  by_cases h : 0 <= softK items i
  ·rw [if_pos h]; exact h2 h
  ·rw [if_neg h]; exact h1 (by omega)
 rcases hf with rfl | ⟨f, rfl, hf1, hf2⟩
 ·rw [if_neg (show ¬ (-1 : Int) >= 0 by omega)]
  unfold headP
  rw [if_neg (show ¬ (0 : Int) <= -1 by omega)]
  refine htail _ (by rw [List.length_take]; omega) (fun hneg => ?_) (fun hpos => ?_)
  ·rw [if_neg (by omega), if_pos (by simp [map_take1]; omega), if_pos (by simp; omega), if_pos (by simp; omega)]
   simp only [map_take1, map_drop1, List.map_append, List.map_cons, List.map_nil]
  ·obtain ⟨k, hk, hk1, hk2⟩ := soft_get hall hpos
   obtain ⟨j1, j2, j3⟩ := joined_bd (items := items) (i := i) (k := k) hd hk2
   have hj := hJ hi hk1 hd hk2
   rw [hk] at hpos ⊢
   rw [if_pos (by omega)]
   simp only [hj, go_sem, List.length_map, Int.toNat_natCast]
   rw [half_len _ (by omega), wrap_id (by omega)]
   rw [if_pos (by omega), if_pos (by simp; omega), if_pos (by simp; omega), if_pos (by simp; omega)]
   have e : ((((joinedP items i k).length / 2 : Nat) : Int) + 1).toNat = (joinedP items i k).length / 2 + 1 := by omega
   simp only [map_take1, e, List.map_append, List.map_cons, List.map_nil, List.map_take]
 ·have hjf := hJ hf1 hi hf2 hd
  obtain ⟨f1, f2, f3⟩ := joined_bd (items := items) (i := f) (k := i) hf2 hd
  rw [if_pos (by omega)]
  simp only [hjf, go_sem, List.length_map, Int.toNat_natCast]
  unfold headP
  rw [if_pos (show (0 : Int) <= (f : Int) by omega), Int.toNat_natCast, half_len _ (by omega), if_pos (show (0 : Int) <= (((joinedP items f i).length / 2 : Nat) : Int) /\ (((joinedP items f i).length / 2 : Nat) : Int) <= ((joinedP items f i).length : Int) by omega), Int.toNat_natCast]
  refine htail _ (by rw [List.length_drop]; omega) (fun hneg => ?_) (fun hpos => ?_)
  ·rw [if_neg (by omega), if_pos (by simp; omega), if_pos (by simp; omega), if_pos (by simp; omega)]
   simp only [map_drop1, List.map_append, List.map_cons, List.map_nil, List.map_drop]
  ·obtain ⟨k, hk, hk1, hk2⟩ := soft_get hall hpos
   obtain ⟨j1, j2, j3⟩ := joined_bd (items := items) (i := i) (k := k) hd hk2
   have hj := hJ hi hk1 hd hk2
   rw [hk] at hpos ⊢
   rw [if_pos (by omega)]
   simp only [hj, go_sem, List.length_map, Int.toNat_natCast]
   rw [half_len _ (by omega), wrap_id (by omega)]
   rw [if_pos (by omega), if_pos (by simp; omega), if_pos (by simp; omega), if_pos (by simp; omega)]
   have e : ((((joinedP items i k).length / 2 : Nat) : Int) + 1).toNat = (joinedP items i k).length / 2 + 1 := by omega
   simp only [e, List.map_append, List.map_cons, List.map_nil, List.map_take, List.map_drop]
theorem s_points {items : List Itm} (hl : items.length <= 1000000) {i : Nat} {frm : Int} (hi : i < items.length) (hd : drawn (itA items i)) (hf : frmOK items i frm) (hall : ∀ k < items.length, motI (itA items k) -> drawn (itA items k)) :
  m_cncref25_points [.view kItm (items.map itmR), I i, I frm] = some [.view kPt ((pointsP items i frm).map ptR)] :=
 a_points hi hd hf hall (s_cncref23_Chords hd.1) (s_Smooth _) (fun h1 h2 h3 h4 => s_joined h1 h2 h3 h4) (s_Soft hl hi) (s_Center hd.1.2.1 hd.1.2.2.1)
end Go.Bm
/- the reference's path of a list of items -/
set_option maxRecDepth 100000
namespace Go.Bm
open Classical

def wrongI (it : Itm) : Prop := it.kind < 1 \/ it.kind > 14 \/ (motI it /\ (¬ validI it \/ (it.kind ≠ 1 /\ (it.feed < 1 \/ it.feed > 60000000)) \/ it.blend < 0 \/ it.blend > 1000)) \/ (¬ motI it /\ it.kind = 8 /\ (it.n < 3 \/ it.n > 5 \/ it.speed < 0 \/ it.speed > 30000))
theorem a_wrong {MV MM : List AC -> Option (List AC)} {it : Itm} (hM : MM [I it.kind] = some [B (decide (1 <= it.kind /\ it.kind <= 6))]) (hV : ∃ v, MV (itmR it) = some [B v] /\ (v = true ↔ validI it)) :
  ∃ v, mf_cncref25_wrong MV MM (itmR it) = some [B v] /\ (v = true ↔ wrongI it) := by
 obtain ⟨v, hv, hvv⟩ := hV
 rw [mf_cncref25_wrong_eq]
 simp only [go_sem, hM, hv]
 unfold wrongI motI
 by_cases c1 : it.kind < 1
 ·rw [if_pos c1]; exact ⟨_, rfl, by simp [c1]⟩
 rw [if_neg c1]
 by_cases c2 : it.kind > 14
 ·rw [if_pos c2]; exact ⟨_, rfl, by simp; omega⟩
 rw [if_neg c2]
 by_cases c3 : 1 <= it.kind /\ it.kind <= 6
 ·rw [if_pos c3]
  by_cases c4 : validI it
  ·rw [if_neg (by simp [hvv.2 c4])]
   have hk8 : it.kind ≠ 8 := by omega
   by_cases c5 : it.kind = 1
   ·rw [if_neg (by omega)]
    by_cases c6 : it.blend < 0
    ·rw [if_pos c6]; exact ⟨_, rfl, iff_of_true rfl (by omega)⟩
    ·rw [if_neg c6]
     refine ⟨_, rfl, ?_⟩
     rw [decide_eq_true_eq]
     constructor
     ·intro h; omega
     ·rintro (h | h | ⟨-, h | h | h | h⟩ | h)
      ·omega
      ·omega
      ·exact absurd c4 h
      ·omega
      ·omega
      ·exact h
      ·omega
   ·rw [if_pos (by omega)]
    by_cases c7 : it.feed < 1
    ·rw [if_pos c7]; exact ⟨_, rfl, iff_of_true rfl (by omega)⟩
    rw [if_neg c7]
    by_cases c8 : it.feed > 60000000
    ·rw [if_pos c8]; exact ⟨_, rfl, iff_of_true rfl (by omega)⟩
    rw [if_neg c8]
    by_cases c6 : it.blend < 0
    ·rw [if_pos c6]; exact ⟨_, rfl, iff_of_true rfl (by omega)⟩
    ·rw [if_neg c6]
     refine ⟨_, rfl, ?_⟩
     rw [decide_eq_true_eq]
     constructor
     ·intro h; omega
     ·rintro (h | h | ⟨-, h | h | h | h⟩ | h)
      ·omega
      ·omega
      ·exact absurd c4 h
      ·omega
      ·omega
      ·exact h
      ·omega
  ·rw [if_pos (fun h => c4 (hvv.1 h))]
   exact ⟨_, rfl, iff_of_true rfl (.inr (.inr (.inl ⟨c3, .inl c4⟩)))⟩
 ·rw [if_neg c3]
  by_cases c4 : it.kind = 8
  ·rw [if_pos c4]
   by_cases d1 : it.n < 3
   ·rw [if_pos d1]; exact ⟨_, rfl, iff_of_true rfl (by omega)⟩
   rw [if_neg d1]
   by_cases d2 : it.n > 5
   ·rw [if_pos d2]; exact ⟨_, rfl, iff_of_true rfl (by omega)⟩
   rw [if_neg d2]
   by_cases d3 : it.speed < 0
   ·rw [if_pos d3]; exact ⟨_, rfl, iff_of_true rfl (by omega)⟩
   rw [if_neg d3]
   refine ⟨_, rfl, ?_⟩
   rw [decide_eq_true_eq]
   omega
  ·rw [if_neg c4]
   exact ⟨_, rfl, iff_of_false (by simp) (by omega)⟩
theorem s_wrong (it : Itm) : ∃ v, m_cncref25_wrong (itmR it) = some [B v] /\ (v = true ↔ wrongI it) := a_wrong (s_cncref23_Motion _) (s_cncref23_Valid it)
theorem s_wrong' (it : Itm) : m_cncref25_wrong (itmR it) = some [B (decide (wrongI it))] := by
 obtain ⟨v, h1, h2⟩ := s_wrong it
 rw [h1]
 congr 2
 by_cases c : wrongI it
 ·rw [decide_eq_true c, h2.2 c]
 ·rw [decide_eq_false c]
  cases v
  ·rfl
  ·exact absurd (h2.1 rfl) c
noncomputable def chkF (items : List Itm) : Nat -> Nat -> Int -> Int
 | 0, _, _ => 0
 | k + 1, i, last => if wrongI (itA items i) then 1 else if motI (itA items i) then (if 0 <= last /\ (itA items last.toNat).to ≠ (itA items i).fr then 13 else chkF items k (i + 1) i) else chkF items k (i + 1) last
theorem l_Check {MM MW : List AC -> Option (List AC)} {items : List Itm} (hM : ∀ k : Int, MM [I k] = some [B (decide (1 <= k /\ k <= 6))]) (hW : ∀ it, MW (itmR it) = some [B (decide (wrongI it))]) (hl : items.length <= 1000000) :
  ∀ (k i : Nat) (last : Int), i + k = items.length -> (last = -1 \/ (0 <= last /\ last < i)) ->
  (loopC (st_cncref25_Check_5 MM MW) [.view kItm (items.map itmR), I last, .view kItm (items.map itmR), I items.length, I i] = some (1, [I (chkF items k i last)]) /\ chkF items k i last ≠ 0) \/
  (loopC (st_cncref25_Check_5 MM MW) [.view kItm (items.map itmR), I last, .view kItm (items.map itmR), I items.length, I i] = some (2, []) /\ chkF items k i last = 0)
 | 0, i, last, hi, _ => by
  right
  refine ⟨loop_end ?_ (by simp), rfl⟩
  rw [st_cncref25_Check_5_eq]
  simp only [go_sem]
  rw [if_neg (by omega)]
 | k + 1, i, last, hi, hla => by
  have hlt : i < items.length := by omega
  have hr := row_itA hlt
  have hw := hW (itA items i)
  have hm := hM (itA items i).kind
  have hin : (0 : Int) <= (i : Int) /\ (i : Int) < (items.length : Int) := by omega
  have hst : st_cncref25_Check_5 MM MW [.view kItm (items.map itmR), I last, .view kItm (items.map itmR), I items.length, I i] = if wrongI (itA items i) then some (1, [I 1]) else if motI (itA items i) then (if 0 <= last /\ (itA items last.toNat).to ≠ (itA items i).fr then some (1, [I 13]) else some (0, [.view kItm (items.map itmR), I i, .view kItm (items.map itmR), I items.length, I (i + 1 : Nat)])) else some (0, [.view kItm (items.map itmR), I last, .view kItm (items.map itmR), I items.length, I (i + 1 : Nat)]) := by
   rw [st_cncref25_Check_5_eq]
   simp only [itmR] at hw
   simp only [go_sem, List.length_map, Int.toNat_natCast, hr, hw, hm, if_pos hin]
   rw [if_pos (by omega), wrap_id (by omega)]
   by_cases c1 : wrongI (itA items i)
   ·rw [if_pos c1, if_pos c1]
   rw [if_neg c1, if_neg c1]
   by_cases c2 : motI (itA items i)
   ·rw [if_neg (fun h => h c2), if_pos c2]
    rcases hla with rfl | ⟨h1, h2⟩
    ·rw [if_neg (show ¬ (-1 : Int) >= 0 by omega), if_neg (fun h => by omega)]; rfl
    ·obtain ⟨L, rfl⟩ := Int.eq_ofNat_of_zero_le h1
     have hL : L < items.length := by omega
     have hin2 : (0 : Int) <= (L : Int) /\ (L : Int) < (items.length : Int) := by omega
     have hr2 := row_itA hL
     simp only [Int.toNat_natCast, hr2, go_sem, if_pos hin2]
     rw [if_pos (by omega)]
     by_cases c3 : (itA items L).to = (itA items i).fr
     ·have c4 := pt_ext.1 c3
      rw [if_neg (fun h => h ⟨c4.1, c4.2.1, c4.2.2, trivial⟩), if_neg (fun h => h.2 c3)]; rfl
     ·rw [if_pos (fun h => c3 (pt_ext.2 ⟨h.1, h.2.1, h.2.2.1⟩)), if_pos ⟨h1, c3⟩]
   ·rw [if_pos (show ¬ (1 <= (itA items i).kind /\ (itA items i).kind <= 6) from c2), if_neg c2]; rfl
  unfold chkF
  by_cases c1 : wrongI (itA items i)
  ·rw [if_pos c1] at hst ⊢
   exact .inl ⟨loop_end hst (by simp), by simp⟩
  ·rw [if_neg c1] at hst ⊢
   by_cases c2 : motI (itA items i)
   ·rw [if_pos c2] at hst ⊢
    by_cases c3 : 0 <= last /\ (itA items last.toNat).to ≠ (itA items i).fr
    ·rw [if_pos c3] at hst ⊢
     exact .inl ⟨loop_end hst (by simp), by simp⟩
    ·rw [if_neg c3] at hst ⊢
     rw [loop_more hst]
     exact l_Check hM hW hl k (i + 1) i (by omega) (.inr (by omega))
   ·rw [if_neg c2] at hst ⊢
    rw [loop_more hst]
    exact l_Check hM hW hl k (i + 1) last (by omega) (by omega)
noncomputable def checkP (items : List Itm) : Int := if items.length > 20000 then 10 else chkF items items.length 0 (-1)
theorem a_Check {MM MW : List AC -> Option (List AC)} {items : List Itm} (hM : ∀ k : Int, MM [I k] = some [B (decide (1 <= k /\ k <= 6))]) (hW : ∀ it, MW (itmR it) = some [B (decide (wrongI it))]) :
  mf_cncref25_Check MM MW (loopC (st_cncref25_Check_5 MM MW)) [.view kItm (items.map itmR)] = some [I (checkP items)] := by
 rw [mf_cncref25_Check_eq]
 simp only [go_sem, List.length_map]
 unfold checkP
 by_cases hl : items.length > 20000
 ·rw [if_pos (by omega), if_pos hl]
 ·rw [if_neg (by omega), if_neg hl]
  rcases l_Check hM hW (items := items) (by omega) items.length 0 (-1) (by omega) (.inl rfl) with ⟨h, -⟩ | ⟨h, h0⟩
  ·have h' : loopC (st_cncref25_Check_5 MM MW) [.view kItm (items.map itmR), I (-1), .view kItm (items.map itmR), I items.length, I 0] = some (1, [I (chkF items items.length 0 (-1))]) := h
   simp only [h', go_sem]
  ·have h' : loopC (st_cncref25_Check_5 MM MW) [.view kItm (items.map itmR), I (-1), .view kItm (items.map itmR), I items.length, I 0] = some (2, []) := h
   simp only [h', go_sem, h0]
   simp
theorem s_Check (items : List Itm) : m_cncref25_Check [.view kItm (items.map itmR)] = some [I (checkP items)] := a_Check s_cncref23_Motion s_wrong'
theorem chk_right {items : List Itm} : ∀ (k i : Nat) (last : Int), i + k = items.length -> chkF items k i last = 0 -> ∀ j, i <= j -> j < items.length -> ¬ wrongI (itA items j)
 | 0, i, last, hi, _, j, h1, h2 => by omega
 | k + 1, i, last, hi, h, j, h1, h2 => by
  unfold chkF at h
  split at h
  ·omega
  ·rename_i c
   by_cases hij : j = i
   ·subst hij; exact c
   ·split at h
    ·split at h
     ·omega
     ·exact chk_right k (i + 1) _ (by omega) h j (by omega) h2
    ·exact chk_right k (i + 1) _ (by omega) h j (by omega) h2
theorem check_right {items : List Itm} (h : checkP items = 0) : items.length <= 20000 /\ ∀ j, j < items.length -> ¬ wrongI (itA items j) := by
 unfold checkP at h
 split at h
 ·omega
 ·exact ⟨by omega, fun j hj => chk_right _ 0 _ (by omega) h j (by omega) hj⟩
theorem right_mot {it : Itm} (h : ¬ wrongI it) (hm : motI it) : drawn it /\ (it.kind = 1 \/ 1 <= it.feed /\ it.feed <= 60000000) := by
 unfold wrongI at h
 have hv : validI it := by
  by_cases c : validI it
  ·exact c
  ·exact absurd (.inr (.inr (.inl ⟨hm, .inl c⟩))) h
 have h2 : ¬ ((it.kind ≠ 1 /\ (it.feed < 1 \/ it.feed > 60000000)) \/ it.blend < 0 \/ it.blend > 1000) := fun c => h (.inr (.inr (.inl ⟨hm, .inr c⟩)))
 exact ⟨⟨hv, by omega, by omega⟩, by omega⟩
theorem right_sp {it : Itm} (h : ¬ wrongI it) (h8 : it.kind = 8) : 0 <= it.speed /\ it.speed <= 30000 := by
 unfold wrongI at h
 have hm : ¬ motI it := fun c => by have := c.2; omega
 have h2 : ¬ (it.n < 3 \/ it.n > 5 \/ it.speed < 0 \/ it.speed > 30000) := fun c => h (.inr (.inr (.inr ⟨hm, h8, c⟩)))
 omega

noncomputable def addPt (item feed lead : Int) (s : List Sgm × Int × Pt) (q : Pt) : List Sgm × Int × Pt := if q = s.2.2 then s else (s.1 ++ [⟨q, lenP s.2.2 q, item, feed, lead⟩], s.2.1 + lenP s.2.2 q, q)
theorem l_B19 {MK MSo ML MP MSy MR MF MO MM MC : List AC -> Option (List AC)} {items : List Itm} {pts : List Pt} (hL : ∀ {a b : Pt}, bd 67108864 a -> bd 67108864 b -> ML [I a.x, I a.y, I a.z, I b.x, I b.y, I b.z] = some [I (lenP a b)] /\ 0 <= lenP a b /\ lenP a b <= 268435456)
  (hpts : ∀ p ∈ pts, bd 67108864 p) (hpl : pts.length <= 1000000) {marks : List Mrk} {speed i i2 n item feed lead : Int} {begun : Bool} {st : Pt} :
  ∀ (k j : Nat) (s : List Sgm × Int × Pt) (g : Pt) (gl : Int), j + k = pts.length -> s.1.length + k <= 1048576 -> 0 <= s.2.1 -> s.2.1 + k * 268435456 <= 4000000000000000000 -> bd 67108864 s.2.2 ->
  loopC (st_cncref25_Build_19 MK MSo ML MP MSy MR MF MO MM MC) [.view kSgm (s.1.map sgmR), .view kMrk (marks.map mrkR), .view kItm (items.map itmR), I s.2.1, I speed, B begun, I i, .view kItm (items.map itmR), I n, I i2, .view kPt (pts.map ptR), I pts.length, I j, I 0, I 0, I 0, .view kSgm [], .view kMrk [], I st.x, I st.y, I st.z, I s.2.2.x, I s.2.2.y, I s.2.2.z, I g.x, I g.y, I g.z, I gl, I item, I feed, I lead] =
   some (2, [.view kSgm (((pts.drop j).foldl (addPt item feed lead) s).1.map sgmR), .view kMrk (marks.map mrkR), .view kItm (items.map itmR), I ((pts.drop j).foldl (addPt item feed lead) s).2.1, I speed, B begun, I i, .view kItm (items.map itmR), I n, I i2, I 0, I 0, I 0, .view kSgm [], .view kMrk [], I st.x, I st.y, I st.z, I ((pts.drop j).foldl (addPt item feed lead) s).2.2.x, I ((pts.drop j).foldl (addPt item feed lead) s).2.2.y, I ((pts.drop j).foldl (addPt item feed lead) s).2.2.z])
 | 0, j, s, g, gl, hj, _, _, _, _ => by
  refine loop_end ?_ (by simp)
  rw [st_cncref25_Build_19_eq]
  simp only [go_sem]
  rw [if_neg (by omega), List.drop_of_length_le (by omega)]
  rfl
 | k + 1, j, s, g, gl, hj, hs, hl0, hl1, hat => by
  have hlt : j < pts.length := by omega
  have hr : nth [] (pts.map ptR) j = ptR pts[j] := nth_map _ _ _ _ hlt
  have hq := hpts _ (List.getElem_mem hlt)
  have hin : (0 : Int) <= (j : Int) /\ (j : Int) < (pts.length : Int) := by omega
  rw [getElem_take_drop pts j hlt, List.foldl_cons]
  generalize pts[j] = q at *
  obtain ⟨segs, len, at_⟩ := s
  simp only at hs hl0 hl1 hat
  obtain ⟨e1, e2, e3⟩ := hL hat hq
  have hw : IntKind.i64.wrap ((j : Int) + 1) = ((j + 1 : Nat) : Int) := by rw [wrap_id (by omega)]; omega
  by_cases c : q = at_
  ·have hst : st_cncref25_Build_19 MK MSo ML MP MSy MR MF MO MM MC [.view kSgm (segs.map sgmR), .view kMrk (marks.map mrkR), .view kItm (items.map itmR), I len, I speed, B begun, I i, .view kItm (items.map itmR), I n, I i2, .view kPt (pts.map ptR), I pts.length, I j, I 0, I 0, I 0, .view kSgm [], .view kMrk [], I st.x, I st.y, I st.z, I at_.x, I at_.y, I at_.z, I g.x, I g.y, I g.z, I gl, I item, I feed, I lead] =
     some (0, [.view kSgm (segs.map sgmR), .view kMrk (marks.map mrkR), .view kItm (items.map itmR), I len, I speed, B begun, I i, .view kItm (items.map itmR), I n, I i2, .view kPt (pts.map ptR), I pts.length, I (j + 1 : Nat), I 0, I 0, I 0, .view kSgm [], .view kMrk [], I st.x, I st.y, I st.z, I at_.x, I at_.y, I at_.z, I g.x, I g.y, I g.z, I gl, I item, I feed, I lead]) := by
    have c4 := pt_ext.1 c
    rw [st_cncref25_Build_19_eq]
    simp only [go_sem, List.length_map, Int.toNat_natCast, hr, if_pos hin, hw]
    rw [if_pos (by omega), if_pos ⟨c4.1, c4.2.1, c4.2.2, trivial⟩]
   rw [loop_more hst]
   have := l_B19 (MK := MK) (MSo := MSo) (ML := ML) (MP := MP) (MSy := MSy) (MR := MR) (MF := MF) (MO := MO) (MM := MM) (MC := MC) (items := items) hL hpts hpl (marks := marks) (speed := speed) (i := i) (i2 := i2) (n := n) (item := item) (feed := feed) (lead := lead) (begun := begun) (st := st) k (j + 1) (segs, len, at_) g gl (by omega) (by simp only; omega) hl0 (by simp only; omega) hat
   rw [this]
   have e : addPt item feed lead (segs, len, at_) q = (segs, len, at_) := if_pos c
   rw [e]
  ·have hst : st_cncref25_Build_19 MK MSo ML MP MSy MR MF MO MM MC [.view kSgm (segs.map sgmR), .view kMrk (marks.map mrkR), .view kItm (items.map itmR), I len, I speed, B begun, I i, .view kItm (items.map itmR), I n, I i2, .view kPt (pts.map ptR), I pts.length, I j, I 0, I 0, I 0, .view kSgm [], .view kMrk [], I st.x, I st.y, I st.z, I at_.x, I at_.y, I at_.z, I g.x, I g.y, I g.z, I gl, I item, I feed, I lead] =
     some (0, [.view kSgm ((segs ++ [(⟨q, lenP at_ q, item, feed, lead⟩ : Sgm)]).map sgmR), .view kMrk (marks.map mrkR), .view kItm (items.map itmR), I (len + lenP at_ q), I speed, B begun, I i, .view kItm (items.map itmR), I n, I i2, .view kPt (pts.map ptR), I pts.length, I (j + 1 : Nat), I 0, I 0, I 0, .view kSgm [], .view kMrk [], I st.x, I st.y, I st.z, I q.x, I q.y, I q.z, I q.x, I q.y, I q.z, I (lenP at_ q), I item, I feed, I lead]) := by
    have hap : (segs.map sgmR ++ [[AC.int IntKind.i64 q.x, AC.int IntKind.i64 q.y, AC.int IntKind.i64 q.z, AC.int IntKind.i64 (lenP at_ q), AC.int IntKind.i64 item, AC.int IntKind.i64 feed, AC.int IntKind.i64 lead]]) = (segs ++ [(⟨q, lenP at_ q, item, feed, lead⟩ : Sgm)]).map sgmR := by rw [List.map_append]; rfl
    rw [st_cncref25_Build_19_eq]
    simp only [go_sem, List.length_map, Int.toNat_natCast, hr, if_pos hin, hw, e1]
    rw [if_pos (by omega), if_neg (fun h => c (pt_ext.2 ⟨h.1, h.2.1, h.2.2.1⟩)), hap, if_pos (by simp; omega), if_neg (by simp; omega), wrap_id (by omega)]
   rw [loop_more hst]
   have := l_B19 (MK := MK) (MSo := MSo) (ML := ML) (MP := MP) (MSy := MSy) (MR := MR) (MF := MF) (MO := MO) (MM := MM) (MC := MC) (items := items) hL hpts hpl (marks := marks) (speed := speed) (i := i) (i2 := i2) (n := n) (item := item) (feed := feed) (lead := lead) (begun := begun) (st := st) k (j + 1) (segs ++ [⟨q, lenP at_ q, item, feed, lead⟩], len + lenP at_ q, q) q (lenP at_ q) (by omega) (by simp; omega) (by simp only; omega) (by simp only; omega) hq
   have e : addPt item feed lead (segs, len, at_) q = (segs ++ [⟨q, lenP at_ q, item, feed, lead⟩], len + lenP at_ q, q) := if_neg c
   rw [e]
   exact this
theorem fold_bd {item feed lead : Int} : ∀ (pts : List Pt) (s : List Sgm × Int × Pt), (∀ p ∈ pts, bd 67108864 p) -> bd 67108864 s.2.2 -> 0 <= s.2.1 ->
  (pts.foldl (addPt item feed lead) s).1.length <= s.1.length + pts.length /\ s.2.1 <= (pts.foldl (addPt item feed lead) s).2.1 /\ (pts.foldl (addPt item feed lead) s).2.1 <= s.2.1 + pts.length * 268435456 /\ bd 67108864 (pts.foldl (addPt item feed lead) s).2.2
 | [], s, _, h2, h3 => ⟨by simp, by simp, by simp, h2⟩
 | q :: pts, s, h1, h2, h3 => by
  rw [List.foldl_cons]
  have hq := h1 q (by simp)
  have hl := len_bd h2 hq
  have hs : addPt item feed lead s q = s \/ addPt item feed lead s q = (s.1 ++ [⟨q, lenP s.2.2 q, item, feed, lead⟩], s.2.1 + lenP s.2.2 q, q) := by unfold addPt; split <;> simp
  rcases hs with hs | hs
  ·rw [hs]
   obtain ⟨a, b, c, d⟩ := fold_bd pts s (fun p hp => h1 p (by simp [hp])) h2 h3 (item := item) (feed := feed) (lead := lead)
   exact ⟨by simp; omega, b, by simp; omega, d⟩
  ·rw [hs]
   obtain ⟨a, b, c, d⟩ := fold_bd pts (s.1 ++ [⟨q, lenP s.2.2 q, item, feed, lead⟩], s.2.1 + lenP s.2.2 q, q) (fun p hp => h1 p (by simp [hp])) hq (by simp only; omega) (item := item) (feed := feed) (lead := lead)
   simp only [List.length_append, List.length_cons, List.length_nil] at a b c
   exact ⟨by simp; omega, by omega, by simp; omega, d⟩

structure BSt where
 segs : List Sgm
 marks : List Mrk
 (len speed frm : Int)
 begun : Bool
 (start at_ : Pt)
def leadI (it : Itm) : Int := if syI it then mn (it.feed * 16) 16777216 else 0
def spdI (it : Itm) (s : Int) : Int := if it.kind = 8 /\ (it.n = 3 \/ it.n = 4) then it.speed else s
noncomputable def motS (items : List Itm) (i : Nat) (s : BSt) : List Sgm × Int × Pt :=
 (pointsP items i s.frm).foldl (addPt i (rate (itA items i) s.speed) (leadI (itA items i))) (s.segs, s.len, if s.begun = true then s.at_ else fine (itA items i).fr)
noncomputable def bStep (items : List Itm) (i : Nat) (s : BSt) : BSt :=
 if motI (itA items i) then
  ⟨(motS items i s).1, s.marks ++ [⟨(motS items i s).2.1, kindK items i, i⟩], (motS items i s).2.1, s.speed, if 0 <= softK items i then i else -1, true, if s.begun = true then s.start else fine (itA items i).fr, (motS items i s).2.2⟩
 else ⟨s.segs, s.marks ++ [⟨s.len, otherK (itA items i), i⟩], s.len, spdI (itA items i) s.speed, s.frm, s.begun, s.start, s.at_⟩
noncomputable def buildN (items : List Itm) : Nat -> BSt
 | 0 => ⟨[], [], 0, 0, -1, false, ⟨0, 0, 0⟩, ⟨0, 0, 0⟩⟩
 | i + 1 => bStep items i (buildN items i)
abbrev bstR (items : List Itm) (i : Nat) (s : BSt) : List AC :=
 [.view kSgm (s.segs.map sgmR), .view kMrk (s.marks.map mrkR), .view kItm (items.map itmR), I s.len, I s.speed, I s.frm, B s.begun, .view kItm (items.map itmR), I items.length, I i, I 0, I 0, I 0, .view kSgm [], .view kMrk [], I s.start.x, I s.start.y, I s.start.z, I s.at_.x, I s.at_.y, I s.at_.z]
structure BOK (items : List Itm) (i : Nat) (s : BSt) : Prop where
 segs : s.segs.length <= i * 65537
 marks : s.marks.length = i
 len : 0 <= s.len /\ s.len <= i * 65537 * 268435456
 speed : 0 <= s.speed /\ s.speed <= 30000
 frm : frmOK items i s.frm
 at_ : s.begun = true -> bd 67108864 s.at_
theorem bStep_ok {items : List Itm} {i : Nat} {s : BSt} (hi : i < items.length) (hright : ∀ j < items.length, ¬ wrongI (itA items j)) (h : BOK items i s) : BOK items (i + 1) (bStep items i s) := by
 have hall : ∀ k < items.length, motI (itA items k) -> drawn (itA items k) := fun k hk hm => (right_mot (hright k hk) hm).1
 unfold bStep
 by_cases hm : motI (itA items i)
 ·rw [if_pos hm]
  have hd := hall i hi hm
  obtain ⟨p1, p2⟩ := points_bd hd h.frm hall
  have ha : bd 67108864 (if s.begun = true then s.at_ else fine (itA items i).fr) := by
   by_cases hb : s.begun = true
   ·rw [if_pos hb]; exact h.at_ hb
   ·rw [if_neg hb]; exact bd_mono (fine_bd hd.1.2.1) (by decide)
  obtain ⟨a1, a2, a3, a4⟩ := fold_bd (item := i) (feed := rate (itA items i) s.speed) (lead := leadI (itA items i)) (pointsP items i s.frm) (s.segs, s.len, if s.begun = true then s.at_ else fine (itA items i).fr) p1 ha h.len.1
  have h1 := h.segs
  have h2 := h.len
  have e1 : (i + 1) * 65537 = i * 65537 + 65537 := by rw [Nat.succ_mul]
  refine ⟨?_, ?_, ?_, h.speed, ?_, fun _ => a4⟩
  ·simp only at a1
   show (motS items i s).1.length <= _
   unfold motS
   omega
  ·show (s.marks ++ [_]).length = _
   rw [List.length_append, h.marks]; rfl
  ·show 0 <= (motS items i s).2.1 /\ (motS items i s).2.1 <= _
   unfold motS
   simp only at a2 a3
   have e2 : (((i + 1 : Nat) : Int)) * 65537 * 268435456 = (i : Int) * 65537 * 268435456 + 65537 * 268435456 := by
    rw [Int.natCast_add, Int.natCast_one, Int.add_mul, Int.add_mul]; rfl
   constructor
   ·omega
   ·rw [e2]; omega
  ·show frmOK items (i + 1) (if 0 <= softK items i then (i : Int) else -1)
   split
   ·exact .inr ⟨i, rfl, hi, hd⟩
   ·exact .inl rfl
 ·rw [if_neg hm]
  have h2 := h.len
  have h3 := h.segs
  have e1 : (i + 1) * 65537 = i * 65537 + 65537 := by rw [Nat.succ_mul]
  refine ⟨by show s.segs.length <= _; rw [e1]; exact Nat.le_trans h3 (Nat.le_add_right _ _), ?_, ?_, ?_, h.frm, h.at_⟩
  ·show (s.marks ++ [_]).length = _
   rw [List.length_append, h.marks]; rfl
  ·have e2 : (((i + 1 : Nat) : Int)) * 65537 * 268435456 = (i : Int) * 65537 * 268435456 + 65537 * 268435456 := by
    rw [Int.natCast_add, Int.natCast_one, Int.add_mul, Int.add_mul]; rfl
   show 0 <= s.len /\ s.len <= _
   rw [e2]; omega
  ·show 0 <= spdI (itA items i) s.speed /\ spdI (itA items i) s.speed <= 30000
   unfold spdI
   split
   ·rename_i h8; exact right_sp (hright i hi) h8.1
   ·exact h.speed
theorem init_ok (items : List Itm) : BOK items 0 ⟨[], [], 0, 0, -1, false, ⟨0, 0, 0⟩, ⟨0, 0, 0⟩⟩ := by
 refine ⟨Nat.zero_le _, List.length_nil, ⟨Int.le_refl _, ?_⟩, ⟨Int.le_refl _, ?_⟩, .inl rfl, fun h => by cases h⟩
 ·show (0 : Int) <= ((0 : Nat) : Int) * 65537 * 268435456
  rw [show ((0 : Nat) : Int) = 0 from rfl, Int.zero_mul, Int.zero_mul]
  exact Int.le_refl _
 ·show (0 : Int) <= 30000
  omega
theorem buildN_ok {items : List Itm} (hright : ∀ j < items.length, ¬ wrongI (itA items j)) : ∀ i, i <= items.length -> BOK items i (buildN items i)
 | 0, _ => by rw [buildN]; exact init_ok items
 | i + 1, hi => by rw [buildN]; exact bStep_ok (by omega) hright (buildN_ok hright i (by omega))
end Go.Bm
/- the program's points of a motion are the reference's; which items it refuses -/
set_option maxRecDepth 100000
namespace Go.Bm
open Classical

end Go.Bm
/- the reference's path of a list of items: the model gives it -/
set_option maxRecDepth 100000
namespace Go.Bm
open Classical

theorem mark_app (marks : List Mrk) (a k i : Int) : marks.map mrkR ++ [[AC.int IntKind.i64 a, AC.int IntKind.i64 k, AC.int IntKind.i64 i]] = (marks ++ [(⟨a, k, i⟩ : Mrk)]).map mrkR := by rw [List.map_append]; rfl
theorem a_B7 {MK MSo ML MP MSy MR MF MO MM MC : List AC -> Option (List AC)} {N19 : List AC -> Option (Nat × List AC)} {items : List Itm} {i : Nat} {s : BSt} (hi : i < items.length) (hlen : items.length <= 1000) (hmk : s.marks.length = i)
  (hM : MM [I (itA items i).kind] = some [B (decide (motI (itA items i)))]) (hO : MO (itmR (itA items i)) = some [I (otherK (itA items i))])
  (hF : motI (itA items i) -> MF [I (itA items i).fr.x, I (itA items i).fr.y, I (itA items i).fr.z] = some (ptR (fine (itA items i).fr)))
  (hR : motI (itA items i) -> MR (itmR (itA items i) ++ [I s.speed]) = some [I (rate (itA items i) s.speed)])
  (hSy : MSy (itmR (itA items i)) = some [B (decide (syI (itA items i)))])
  (hfeed : syI (itA items i) -> 0 <= (itA items i).feed /\ (itA items i).feed <= 60000000)
  (hP : motI (itA items i) -> MP [.view kItm (items.map itmR), I i, I s.frm] = some [.view kPt ((pointsP items i s.frm).map ptR)])
  (hSo : MSo [.view kItm (items.map itmR), I i] = some [I (softK items i)]) (hK : MK [.view kItm (items.map itmR), I i] = some [I (kindK items i)])
  (hat : s.begun = true -> bd 67108864 s.at_) (hfr : motI (itA items i) -> bd 67108864 (fine (itA items i).fr))
  (hN : motI (itA items i) -> ∀ (b : Bool) (st a : Pt) (feed lead : Int), bd 67108864 a -> N19 [.view kSgm (s.segs.map sgmR), .view kMrk (s.marks.map mrkR), .view kItm (items.map itmR), I s.len, I s.speed, B b, I i, .view kItm (items.map itmR), I items.length, I i, .view kPt ((pointsP items i s.frm).map ptR), I (pointsP items i s.frm).length, I 0, I 0, I 0, I 0, .view kSgm [], .view kMrk [], I st.x, I st.y, I st.z, I a.x, I a.y, I a.z, I 0, I 0, I 0, I 0, I i, I feed, I lead] =
   some (2, [.view kSgm (((pointsP items i s.frm).foldl (addPt i feed lead) (s.segs, s.len, a)).1.map sgmR), .view kMrk (s.marks.map mrkR), .view kItm (items.map itmR), I ((pointsP items i s.frm).foldl (addPt i feed lead) (s.segs, s.len, a)).2.1, I s.speed, B b, I i, .view kItm (items.map itmR), I items.length, I i, I 0, I 0, I 0, .view kSgm [], .view kMrk [], I st.x, I st.y, I st.z, I ((pointsP items i s.frm).foldl (addPt i feed lead) (s.segs, s.len, a)).2.2.x, I ((pointsP items i s.frm).foldl (addPt i feed lead) (s.segs, s.len, a)).2.2.y, I ((pointsP items i s.frm).foldl (addPt i feed lead) (s.segs, s.len, a)).2.2.z])) :
  st_cncref25_Build_7 MK MSo ML MP MSy MR MF MO MM MC N19 (bstR items i s) = some (0, bstR items (i + 1) (bStep items i s)) := by
 have hr := row_itA hi
 have hin : (0 : Int) <= (i : Int) /\ (i : Int) < (items.length : Int) := by omega
 have hw : IntKind.i64.wrap ((i : Int) + 1) = ((i + 1 : Nat) : Int) := by rw [wrap_id (by omega)]; omega
 have hb : (s.marks.length + 1) * 24 <= 140737488355328 := by omega
 unfold bstR
 rw [st_cncref25_Build_7_eq]
 simp only [itmR, List.cons_append, List.nil_append] at hO hR hSy
 by_cases hm : motI (itA items i)
 ·have hF := hF hm
  have hR := hR hm
  have hP := hP hm
  have hN := hN hm
  have h8 : ¬ (itA items i).kind = 8 := fun h => by have := hm.2; omega
  have hd := decide_eq_true hm
  rw [hd] at hM
  unfold bStep motS
  rw [if_pos hm]
  simp only [go_sem, List.length_map, Int.toNat_natCast, hr, if_pos hin, hw, hM]
  rw [if_pos (by omega), if_neg h8]
  have hl8 : ∀ f : Int, 0 <= f /\ f <= 60000000 -> IntKind.i64.wrap (f * 16) = f * 16 := fun f hf => wrap_id (by omega)
  by_cases hbg : s.begun = true
  ·have hN1 := fun (feed lead : Int) => hN true s.start s.at_ feed lead (hat hbg)
   rw [hbg] at *
   by_cases hs : syI (itA items i)
   ·have hd2 := decide_eq_true hs
    rw [hd2] at hSy
    have hld : leadI (itA items i) = mn ((itA items i).feed * 16) 16777216 := if_pos hs
    simp only [go_sem, hR, hSy, hP, hl8 _ (hfeed hs), List.length_map, hN1, hSo, hK, List.length_append, List.length_map, List.length_cons, List.length_nil, mark_app, hw, if_pos hb, hld]
    by_cases hso : 0 <= softK items i
    ·simp [hso]
    ·simp [hso]
   ·have hd2 := decide_eq_false hs
    rw [hd2] at hSy
    have hld : leadI (itA items i) = 0 := if_neg hs
    simp only [go_sem, hR, hSy, hP, List.length_map, hN1, hSo, hK, List.length_append, List.length_map, List.length_cons, List.length_nil, mark_app, hw, if_pos hb, hld]
    by_cases hso : 0 <= softK items i
    ·simp [hso]
    ·simp [hso]
  ·have hbg2 : s.begun = false := by simpa using hbg
   have hN1 := fun (feed lead : Int) => hN true (fine (itA items i).fr) (fine (itA items i).fr) feed lead (hfr hm)
   rw [hbg2]
   by_cases hs : syI (itA items i)
   ·have hd2 := decide_eq_true hs
    rw [hd2] at hSy
    have hld : leadI (itA items i) = mn ((itA items i).feed * 16) 16777216 := if_pos hs
    simp only [go_sem, hF, hR, hSy, hP, hl8 _ (hfeed hs), List.length_map, hN1, hSo, hK, List.length_append, List.length_map, List.length_cons, List.length_nil, mark_app, hw, if_pos hb, hld]
    by_cases hso : 0 <= softK items i
    ·simp [hso]
    ·simp [hso]
   ·have hd2 := decide_eq_false hs
    rw [hd2] at hSy
    have hld : leadI (itA items i) = 0 := if_neg hs
    simp only [go_sem, hF, hR, hSy, hP, List.length_map, hN1, hSo, hK, List.length_append, List.length_map, List.length_cons, List.length_nil, mark_app, hw, if_pos hb, hld]
    by_cases hso : 0 <= softK items i
    ·simp [hso]
    ·simp [hso]
 ·have hd := decide_eq_false hm
  rw [hd] at hM
  unfold bStep spdI
  rw [if_neg hm]
  simp only [go_sem, List.length_map, Int.toNat_natCast, hr, if_pos hin, hw, hM, hO, List.length_append, List.length_cons, List.length_nil, mark_app, if_pos hb]
  rw [if_pos (by omega)]
  by_cases h8 : (itA items i).kind = 8
  ·by_cases h3 : (itA items i).n = 3
   ·simp [h8, h3]
   ·by_cases h4 : (itA items i).n = 4
    ·simp [h8, h4]
    ·simp [h8, h3, h4]
  ·simp [h8]
end Go.Bm
/- the reference's path of a list of items, for up to 15 items -/
set_option maxRecDepth 100000
namespace Go.Bm
open Classical

theorem s_RateM {it : Itm} {speed : Int} (hf : it.kind = 1 \/ 1 <= it.feed /\ it.feed <= 60000000) (hs : 0 <= speed /\ speed <= 30000) : m_cncref25_Rate (itmR it ++ [I speed]) = some [I (rate it speed)] := by
 by_cases h1 : it.kind = 1
 ·unfold m_cncref25_Rate rate
  generalize m_cncref24_Rounded = M
  have h := mf_cncref25_Rate_eq (M_cncref24_Rounded := M) it.kind it.block it.fr.x it.fr.y it.fr.z it.to.x it.to.y it.to.z it.plane it.ce.x it.ce.y it.ce.z it.dir it.full it.feed it.perRev it.side it.radius it.blend it.n it.speed it.on speed
  rw [if_pos h1]
  refine Eq.trans h ?_
  rw [bif_true (by simp [h1])]
 ·exact s_cncref25_Rate (by omega) hs
noncomputable def pathP (items : List Itm) : Pth := ⟨(buildN items items.length).start, (buildN items items.length).segs, (buildN items items.length).marks⟩
theorem step_B7 {items : List Itm} (hlen : items.length <= 15) (hright : ∀ j < items.length, ¬ wrongI (itA items j)) {i : Nat} (hi : i < items.length) :
  st_cncref25_Build_7 m_cncref25_kind m_cncref25_Soft m_cncref23_Length m_cncref25_points m_cncref25_synchronized m_cncref25_Rate m_cncref23_Fine m_cncref25_other m_cncref23_Motion m_cncref25_Check l_cncref25_Build_19 (bstR items i (buildN items i)) = some (0, bstR items (i + 1) (buildN items (i + 1))) := by
 have hb := buildN_ok hright i (by omega)
 have hall : ∀ k < items.length, motI (itA items k) -> drawn (itA items k) := fun k hk hm => (right_mot (hright k hk) hm).1
 have hrm := right_mot (hright i hi)
 rw [buildN]
 generalize buildN items i = s at *
 refine a_B7 hi (by omega) hb.marks (s_cncref23_Motion _) (s_other _) (fun hm => s_Fine (bd_mono (hrm hm).1.1.2.1 (by decide))) (fun hm => s_RateM (hrm hm).2 hb.speed) (s_sync _) (fun hs => ?_)
  (fun hm => s_points (by omega) hi (hrm hm).1 hb.frm hall) (s_Soft (by omega) hi) (s_kind (by omega) hi) hb.at_ (fun hm => bd_mono (fine_bd (hrm hm).1.1.2.1) (by decide)) fun hm b st a feed lead ha => ?_
 ·have hm : motI (itA items i) := by rcases hs with h | h <;> exact ⟨by omega, by omega⟩
  have h2 := (hrm hm).2
  rcases hs with h | h <;> omega
 ·obtain ⟨p1, p2⟩ := points_bd (hrm hm).1 hb.frm hall
  have hseg := hb.segs
  have hln := hb.len
  have key := l_B19 (MK := m_cncref25_kind) (MSo := m_cncref25_Soft) (ML := m_cncref23_Length) (MP := m_cncref25_points) (MSy := m_cncref25_synchronized) (MR := m_cncref25_Rate) (MF := m_cncref23_Fine) (MO := m_cncref25_other) (MM := m_cncref23_Motion) (MC := m_cncref25_Check)
   (items := items) (pts := pointsP items i s.frm) (fun h1 h2 => ⟨(s_cncref23_Length h1 h2).1, len_bd h1 h2⟩) p1 (by omega) (marks := s.marks) (speed := s.speed) (i := i) (i2 := i) (n := items.length) (item := i) (feed := feed) (lead := lead) (begun := b) (st := st)
   (pointsP items i s.frm).length 0 (s.segs, s.len, a) ⟨0, 0, 0⟩ 0 (by omega) (by simp only; omega) hln.1 (by simp only; omega) ha
  rw [List.drop_zero] at key
  exact key
theorem loop_B7 {items : List Itm} (hlen : items.length <= 15) (hright : ∀ j < items.length, ¬ wrongI (itA items j)) : ∀ (k i : Nat), i + k = items.length ->
  loopC (st_cncref25_Build_7 m_cncref25_kind m_cncref25_Soft m_cncref23_Length m_cncref25_points m_cncref25_synchronized m_cncref25_Rate m_cncref23_Fine m_cncref25_other m_cncref23_Motion m_cncref25_Check l_cncref25_Build_19) (bstR items i (buildN items i)) =
   some (2, [.view kSgm ((pathP items).segs.map sgmR), .view kMrk ((pathP items).marks.map mrkR), I 0, I 0, I 0, .view kSgm [], .view kMrk [], I (pathP items).start.x, I (pathP items).start.y, I (pathP items).start.z])
 | 0, i, hi => by
  obtain rfl : i = items.length := by omega
  refine loop_end ?_ (by simp)
  unfold bstR pathP
  rw [st_cncref25_Build_7_eq, bif_neg (by omega)]
 | k + 1, i, hi => by
  rw [loop_more (step_B7 hlen hright (by omega))]
  exact loop_B7 hlen hright k (i + 1) (by omega)
theorem a_Build {MK MSo ML MP MSy MR MF MO MM MC : List AC -> Option (List AC)} {N19 N7 : List AC -> Option (Nat × List AC)} {items : List Itm} {e : Int} (hC : MC [.view kItm (items.map itmR)] = some [I e])
  (hN : e = 0 -> N7 (bstR items 0 (buildN items 0)) = some (2, [.view kSgm ((pathP items).segs.map sgmR), .view kMrk ((pathP items).marks.map mrkR), I 0, I 0, I 0, .view kSgm [], .view kMrk [], I (pathP items).start.x, I (pathP items).start.y, I (pathP items).start.z])) :
  mf_cncref25_Build MK MSo ML MP MSy MR MF MO MM MC N19 N7 [.view kItm (items.map itmR)] = if e = 0 then some (pthR (pathP items) ++ [I 0]) else some [I 0, I 0, I 0, .view kSgm [], .view kMrk [], I e] := by
 rw [mf_cncref25_Build_eq]
 simp only [go_sem, hC, List.length_map]
 by_cases he : e = 0
 ·have h := hN he
  have h' : N7 [.view kSgm [], .view kMrk [], .view kItm (items.map itmR), I 0, I 0, I (-1), B false, .view kItm (items.map itmR), I items.length, I 0, I 0, I 0, I 0, .view kSgm [], .view kMrk [], I 0, I 0, I 0, I 0, I 0, I 0] = _ := h
  rw [if_neg (by simp [he]), if_pos he, h']
  simp only [go_sem]
  rfl
 ·rw [if_pos he, if_neg he]
theorem s_Build {items : List Itm} (hlen : items.length <= 15) : m_cncref25_Build [.view kItm (items.map itmR)] = if checkP items = 0 then some (pthR (pathP items) ++ [I 0]) else some [I 0, I 0, I 0, .view kSgm [], .view kMrk [], I (checkP items)] :=
 a_Build (s_Check items) fun he => loop_B7 hlen (check_right he).2 items.length 0 (by omega)
end Go.Bm
/- what is known of every path that the reference builds -/
set_option maxRecDepth 100000
namespace Go.Bm
open Classical

def endOf : Pt -> List Sgm -> Pt
 | a, [] => a
 | _, g :: l => endOf g.to l
abbrev B26 : Nat := 67108864
def goodSegs : Pt -> List Sgm -> Prop
 | _, [] => True
 | a, g :: l => g.len = lenP a g.to /\ g.to ≠ a /\ bd B26 g.to /\ goodSegs g.to l
def sumLen : List Sgm -> Int
 | [] => 0
 | g :: l => g.len + sumLen l
theorem endOf_snoc (g : Sgm) : ∀ (a : Pt) (l : List Sgm), endOf a (l ++ [g]) = g.to
 | _, [] => rfl
 | _, h :: l => by simp only [List.cons_append, endOf]; exact endOf_snoc g h.to l
theorem goodSegs_snoc {g : Sgm} : ∀ {a : Pt} {l : List Sgm}, goodSegs a l -> g.len = lenP (endOf a l) g.to -> g.to ≠ endOf a l -> bd B26 g.to -> goodSegs a (l ++ [g])
 | a, [], _, h1, h2, h3 => ⟨h1, h2, h3, trivial⟩
 | a, k :: l, h, h1, h2, h3 => ⟨h.1, h.2.1, h.2.2.1, goodSegs_snoc h.2.2.2 h1 h2 h3⟩
theorem sumLen_snoc (g : Sgm) : ∀ (l : List Sgm), sumLen (l ++ [g]) = sumLen l + g.len
 | [] => by simp [sumLen]
 | k :: l => by simp only [List.cons_append, sumLen]; rw [sumLen_snoc g l]; omega
def segInv (start : Pt) (s : List Sgm × Int × Pt) : Prop := goodSegs start s.1 /\ endOf start s.1 = s.2.2 /\ sumLen s.1 = s.2.1
theorem fold_inv {start : Pt} {item feed lead : Int} : ∀ (pts : List Pt) (s : List Sgm × Int × Pt), (∀ p ∈ pts, bd B26 p) -> segInv start s -> segInv start (pts.foldl (addPt item feed lead) s)
 | [], s, _, h => h
 | q :: pts, s, hp, h => by
  rw [List.foldl_cons]
  refine fold_inv pts _ (fun p hp' => hp p (by simp [hp'])) ?_
  unfold addPt
  by_cases c : q = s.2.2
  ·rw [if_pos c]; exact h
  ·rw [if_neg c]
   obtain ⟨h1, h2, h3⟩ := h
   refine ⟨goodSegs_snoc h1 (by rw [h2]) (by rw [h2]; exact c) (hp q (by simp)), endOf_snoc _ _ _, ?_⟩
   simp only [sumLen_snoc, h3]
structure BInv (s : BSt) : Prop where
 begun : s.begun = true -> bd B26 s.start /\ segInv s.start (s.segs, s.len, s.at_)
 empty : s.begun = false -> s.segs = [] /\ s.len = 0 /\ s.start = ⟨0, 0, 0⟩
theorem bStep_inv {items : List Itm} {i : Nat} {s : BSt} (hi : i < items.length) (hright : ∀ j < items.length, ¬ wrongI (itA items j)) (hok : BOK items i s) (h : BInv s) : BInv (bStep items i s) := by
 have hall : ∀ k < items.length, motI (itA items k) -> drawn (itA items k) := fun k hk hm => (right_mot (hright k hk) hm).1
 unfold bStep
 by_cases hm : motI (itA items i)
 ·rw [if_pos hm]
  have hd := hall i hi hm
  obtain ⟨p1, -⟩ := points_bd hd hok.frm hall
  refine ⟨fun _ => ?_, fun hb => (by cases hb)⟩
  unfold motS
  by_cases hb : s.begun = true
  ·rw [if_pos hb, if_pos hb]
   obtain ⟨g1, g2⟩ := h.begun hb
   exact ⟨g1, fold_inv _ _ p1 g2⟩
  ·rw [if_neg hb, if_neg hb]
   obtain ⟨g1, g2, g3⟩ := h.empty (by simpa using hb)
   refine ⟨bd_mono (fine_bd hd.1.2.1) (by decide), fold_inv _ _ p1 ?_⟩
   rw [g1, g2]
   exact ⟨trivial, rfl, rfl⟩
 ·rw [if_neg hm]
  exact ⟨h.begun, h.empty⟩
theorem buildN_inv {items : List Itm} (hright : ∀ j < items.length, ¬ wrongI (itA items j)) : ∀ i, i <= items.length -> BInv (buildN items i)
 | 0, _ => by rw [buildN]; exact ⟨fun h => (by cases h), fun _ => ⟨rfl, rfl, rfl⟩⟩
 | i + 1, hi => by rw [buildN]; exact bStep_inv (by omega) hright (buildN_ok hright i (by omega)) (buildN_inv hright i (by omega))
structure GoodPath (p : Pth) : Prop where
 start : bd B26 p.start
 segs : goodSegs p.start p.segs
 count : p.segs.length <= 983055
theorem goodP_of {items : List Itm} (hlen : items.length <= 15) (hc : checkP items = 0) : GoodPath (pathP items) := by
 have hright := (check_right hc).2
 have h1 := buildN_ok hright items.length (Nat.le_refl _)
 have h2 := buildN_inv hright items.length (Nat.le_refl _)
 have hs := h1.segs
 unfold pathP
 by_cases hb : (buildN items items.length).begun = true
 ·obtain ⟨g1, g2, -⟩ := h2.begun hb
  exact ⟨g1, g2, by simp only; omega⟩
 ·obtain ⟨g1, -, g3⟩ := h2.empty (by simpa using hb)
  refine ⟨?_, ?_, ?_⟩
  ·simp only [g3]; unfold bd; simp
  ·simp only [g1]; trivial
  ·simp only [g1]; simp
theorem len_pos {a b : Pt} (ha : bd B26 a) (hb : bd B26 b) (h : b ≠ a) : 1 <= lenP a b /\ lenP a b <= 268435456 := by
 obtain ⟨-, h1, h2, -⟩ := s_cncref23_Length ha hb
 have h3 : sqD a b ≠ 0 := fun e => h (sqD_zero.1 e).symm
 have h4 := sqD_nn a b
 have h5 := len_bd ha hb
 refine ⟨?_, h5.2⟩
 by_cases c : lenP a b = 0
 ·rw [c] at h2; omega
 ·omega
theorem good_len {a : Pt} {l : List Sgm} (ha : bd B26 a) (h : goodSegs a l) : ∀ g ∈ l, 1 <= g.len /\ g.len <= 268435456 /\ bd B26 g.to := by
 induction l generalizing a with
 | nil => simp
 | cons k l ih =>
  obtain ⟨h1, h2, h3, h4⟩ := h
  intro g hg
  rcases List.mem_cons.1 hg with rfl | hg
  ·rw [h1]; exact ⟨(len_pos ha h3 h2).1, (len_pos ha h3 h2).2, h3⟩
  ·exact ih h3 h4 g hg
end Go.Bm
/- the program's path of a list of items: its points, its marks, what it adds -/
set_option maxRecDepth 100000
namespace Go.Bm
open Classical

end Go.Bm
/- the program's path of a list of items is the reference's -/
set_option maxRecDepth 100000
namespace Go.Bm
open Classical

end Go.Bm
/- the program's path of up to 15 items, and what is settled of it -/
set_option maxRecDepth 100000
namespace Go.Bm
open Classical

end Go.Bm
/- positions of a path: its length, the segment and the point at a position -/
set_option maxRecDepth 100000
namespace Go.Bm
open Classical

def sg0 : Sgm := ⟨⟨0, 0, 0⟩, 0, 0, 0, 0⟩
def sgA (l : List Sgm) (i : Nat) : Sgm := l.getD i sg0
theorem sgA_get {l : List Sgm} {i : Nat} (h : i < l.length) : sgA l i = l[i] := by unfold sgA; simp [h]
theorem row_sgA {l : List Sgm} {i : Nat} (h : i < l.length) : nth [] (l.map sgmR) i = sgmR (sgA l i) := by rw [sgA_get h]; exact nth_map _ _ _ _ h
theorem sgA_mem {l : List Sgm} {i : Nat} (h : i < l.length) : sgA l i ∈ l := by rw [sgA_get h]; exact List.getElem_mem h
structure SegOK (l : List Sgm) : Prop where
 seg : ∀ g ∈ l, 1 <= g.len /\ g.len <= 268435456 /\ bd B26 g.to
 count : l.length <= 983055
theorem GoodPath.ok {p : Pth} (h : GoodPath p) : SegOK p.segs := ⟨good_len h.start h.segs, h.count⟩
where mx_max' (a b : Int) : mx a b = max a b := by unfold mx; rw [Int.max_def]; split <;> split <;> omega
end Go.Bm
/- the program builds the reference's path, and what is settled of it -/
set_option maxRecDepth 100000
namespace Go.Bm
open Classical

end Go.Bm
/- what is settled of a path -/
set_option maxRecDepth 100000
namespace Go.Bm
open Classical

theorem sum_len {items : List Itm} (hright : ∀ j < items.length, ¬ wrongI (itA items j)) : sumLen (pathP items).segs = (buildN items items.length).len := by
 have h := buildN_inv hright items.length (Nat.le_refl _)
 unfold pathP
 by_cases hb : (buildN items items.length).begun = true
 ·exact (h.begun hb).2.2.2
 ·obtain ⟨g1, g2, -⟩ := h.empty (by simpa using hb)
  simp only [g1, g2]
  rfl
end Go.Bm
/- positions of a path in the reference; the path of the law's maker -/
set_option maxRecDepth 100000
namespace Go.Bm
open Classical

theorem l_ref_Length {l : List Sgm} (h : SegOK l) : ∀ (k i : Nat) (v : Int), i + k = l.length -> 0 <= v -> v + k * 268435456 <= 4000000000000000000 ->
  loopC st_cncref25_Length_3 [I v, .view kSgm (l.map sgmR), I l.length, I i] = some (1, [I (v + sumLen (l.drop i))])
 | 0, i, v, hi, _, _ => by
  refine loop_end ?_ (by simp)
  rw [st_cncref25_Length_3_eq, bif_neg (by omega), List.drop_of_length_le (by omega)]
  simp [sumLen]
 | k + 1, i, v, hi, h0, h1 => by
  have hlt : i < l.length := by omega
  have hcn := h.count
  have hg := h.seg _ (sgA_mem hlt)
  have hst : st_cncref25_Length_3 [I v, .view kSgm (l.map sgmR), I l.length, I i] = some (0, [I (v + (sgA l i).len), .view kSgm (l.map sgmR), I l.length, I (i + 1 : Nat)]) := by
   rw [st_cncref25_Length_3_eq]
   simp only [go_sem, List.length_map, Int.toNat_natCast, row_sgA hlt]
   rw [if_pos (by omega), if_pos (by omega), wrap_id (x := v + _) (by omega), wrap_id (by omega)]
   rfl
  rw [loop_more hst, l_ref_Length h k (i + 1) _ (by omega) (by omega) (by omega)]
  have e : l.drop i = sgA l i :: l.drop (i + 1) := by rw [sgA_get hlt]; exact getElem_take_drop _ _ hlt
  rw [e]
  simp only [sumLen, Int.add_assoc]
theorem s_ref_Length {p : Pth} (h : SegOK p.segs) : m_cncref25_Length (pthR p) = some [I (sumLen p.segs)] := by
 have hl := l_ref_Length h p.segs.length 0 0 (by omega) (by omega) (by have := h.count; omega)
 have hl' : l_cncref25_Length_3 [I 0, .view kSgm (p.segs.map sgmR), I p.segs.length, I 0] = some (1, [I (0 + sumLen (p.segs.drop 0))]) := hl
 rw [List.drop_zero, Int.zero_add] at hl'
 unfold m_cncref25_Length
 generalize l_cncref25_Length_3 = N at *
 rw [mf_cncref25_Length_eq]
 simp only [go_sem, List.length_map, hl']
end Go.Bm
