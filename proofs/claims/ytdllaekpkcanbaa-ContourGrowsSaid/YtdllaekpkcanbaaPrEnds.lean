/- the laws ContourEnds and ContourGrows, over the models -/
import Derived.Test.YtdllaekpkcanbaaPrG
import Derived.Test.YtdllaekpkcanbaaMy1
set_option linter.unusedVariables false
set_option linter.unusedSimpArgs false
set_option maxRecDepth 100000
namespace Go.Bm

/-! what the maker makes can be drawn -/
theorem rot_cases (r k : Int) : (rotU r k = r ∧ rotW r k = 0) ∨ (rotU r k = 0 ∧ rotW r k = r) ∨ (rotU r k = -r ∧ rotW r k = 0) ∨ (rotU r k = 0 ∧ rotW r k = -r) := by
  have hc : k % 4 = 0 ∨ k % 4 = 1 ∨ k % 4 = 2 ∨ k % 4 = 3 := by omega
  unfold rotU rotW
  rcases hc with h | h | h | h <;> simp [h]
theorem rot_sq (r k : Int) : sq2 (rotU r k) (rotW r k) = r * r := by
  unfold sq2
  rcases rot_cases r k with ⟨h1, h2⟩ | ⟨h1, h2⟩ | ⟨h1, h2⟩ | ⟨h1, h2⟩ <;> rw [h1, h2] <;> grind
theorem rot_turn {p q k t : Int} (ht : t = 1 ∨ t = 2 ∨ t = 3) (hp : 0 < p) (hq : 0 < q) : crs (rotU p k) (rotW p k) (rotU q (k + t)) (rotW q (k + t)) ≠ 0 ∨ dt2 (rotU p k) (rotW p k) (rotU q (k + t)) (rotW q (k + t)) < 0 := by
  have hc : k % 4 = 0 ∨ k % 4 = 1 ∨ k % 4 = 2 ∨ k % 4 = 3 := by omega
  have hpq : 0 < p * q := Int.mul_pos hp hq
  have hm : -p * q = -(p * q) ∧ p * -q = -(p * q) ∧ -p * -q = p * q := ⟨Int.neg_mul .., Int.mul_neg .., Int.neg_mul_neg ..⟩
  have e : ∀ j : Int, (k + t) % 4 = j → ∀ i : Int, k % 4 = i → crs (rotU p k) (rotW p k) (rotU q (k + t)) (rotW q (k + t)) = (if i = 0 then p else if i = 2 then -p else 0) * (if j = 1 then q else if j = 3 then -q else 0) - (if i = 1 then p else if i = 3 then -p else 0) * (if j = 0 then q else if j = 2 then -q else 0) ∧
      dt2 (rotU p k) (rotW p k) (rotU q (k + t)) (rotW q (k + t)) = (if i = 0 then p else if i = 2 then -p else 0) * (if j = 0 then q else if j = 2 then -q else 0) + (if i = 1 then p else if i = 3 then -p else 0) * (if j = 1 then q else if j = 3 then -q else 0) := by
    intro j hj i hi
    subst hj hi
    exact ⟨rfl, rfl⟩
  rcases ht with rfl | rfl | rfl <;> rcases hc with h1 | h1 | h1 | h1
  · obtain ⟨e1, e2⟩ := e 1 (by omega) _ h1
    simp at e1 e2; omega
  · obtain ⟨e1, e2⟩ := e 2 (by omega) _ h1
    simp at e1 e2; omega
  · obtain ⟨e1, e2⟩ := e 3 (by omega) _ h1
    simp at e1 e2; omega
  · obtain ⟨e1, e2⟩ := e 0 (by omega) _ h1
    simp at e1 e2; omega
  · obtain ⟨e1, e2⟩ := e 2 (by omega) _ h1
    simp at e1 e2; omega
  · obtain ⟨e1, e2⟩ := e 3 (by omega) _ h1
    simp at e1 e2; omega
  · obtain ⟨e1, e2⟩ := e 0 (by omega) _ h1
    simp at e1 e2; omega
  · obtain ⟨e1, e2⟩ := e 1 (by omega) _ h1
    simp at e1 e2; omega
  · obtain ⟨e1, e2⟩ := e 3 (by omega) _ h1
    simp at e1 e2; omega
  · obtain ⟨e1, e2⟩ := e 0 (by omega) _ h1
    simp at e1 e2; omega
  · obtain ⟨e1, e2⟩ := e 1 (by omega) _ h1
    simp at e1 e2; omega
  · obtain ⟨e1, e2⟩ := e 2 (by omega) _ h1
    simp at e1 e2; omega
theorem arc_turn {size : Int} {it : Itm} (h : ArcMade size it) : turnOK it := by
  obtain ⟨r, k, t, g, x, h1, h2, h3, h4, h5, h6, h7, h8, h9, h10, h11, h12, h13⟩ := h.ends
  have hp := h.plane
  have a1 : dU it it.fr = rotU r k := by unfold dU; rw [h12, (pl_sp hp).1]; omega
  have a2 : dW it it.fr = rotW r k := by unfold dW; rw [h12, (pl_sp hp).2.1]; omega
  have a3 : dU it it.to = rotU (r + g) (k + t) := by unfold dU; rw [h12, h13, (pl_sp hp).1, (pl_sp hp).1]; omega
  have a4 : dW it it.to = rotW (r + g) (k + t) := by unfold dW; rw [h12, h13, (pl_sp hp).2.1, (pl_sp hp).2.1]; omega
  have q1 : qA it = r * r := by unfold qA; rw [a1, a2, rot_sq]
  have q2 : qB it = (r + g) * (r + g) := by unfold qB; rw [a3, a4, rot_sq]
  have m1 : 64 ≤ r * r := by
    have := Int.mul_le_mul h1 h1 (by omega) (by omega)
    omega
  have m2 : 64 ≤ (r + g) * (r + g) := by
    have := Int.mul_le_mul (show (8 : Int) ≤ r + g by omega) (show (8 : Int) ≤ r + g by omega) (by omega) (by omega)
    omega
  unfold turnOK
  refine ⟨by omega, by omega, ?_, ?_, ?_⟩
  · rw [q1, q2]
    unfold nearQ
    right
    have hg : g * g ≤ 16 := by
      have := Int.mul_le_mul h8 h8 h7 (by omega)
      omega
    have e1 : r * r + (r + g) * (r + g) - 16 = 2 * (r * (r + g)) + (g * g - 16) := by grind
    have hpos : 0 ≤ r * (r + g) := Int.mul_nonneg (by omega) (by omega)
    have hge : 64 ≤ r * (r + g) := by
      have := Int.mul_le_mul h1 (show (8 : Int) ≤ r + g by omega) (by omega) (by omega)
      omega
    have hgg : 0 ≤ g * g := Int.mul_nonneg h7 h7
    have e2 : 4 * (r * r) * ((r + g) * (r + g)) = (2 * (r * (r + g))) * (2 * (r * (r + g))) := by grind
    rw [e1, e2]
    generalize 2 * (r * (r + g)) = m at *
    exact Int.mul_self_le_mul_self (by omega) (by omega)
  · intro hf
    rw [h11] at hf
    have ht := of_decide_eq_true hf
    rw [a1, a2, a3, a4, ht, h10 ht, Int.add_zero, Int.add_zero]
    exact ⟨rfl, rfl⟩
  · intro hf
    rw [h11] at hf
    have ht := of_decide_eq_false hf
    unfold cAB dAB
    rw [a1, a2, a3, a4]
    exact rot_turn (by omega) (by omega) (by omega)
theorem made_valid {it : Itm} (h : Made it) (h1 : bd 1000000 it.fr) (h2 : bd 1000000 it.to) : validI it := by
  refine ⟨h.kind, bd_mono h1 (by omega), bd_mono h2 (by omega), fun h3 => ?_⟩
  have ha := h.arc h3
  exact ⟨ha.plane, ha.dir, bd_mono (arc_bd ha (by omega) h1).2 (by omega), arc_turn ha⟩

/-! the ends are on it -/
theorem dot_zero (b a : Pt) : dotP (subP b a) (subP a a) = 0 ∧ dotP (subP a a) (subP a a) = 0 := by
  unfold dotP subP
  simp
theorem onLine_from (a b : Pt) : onLine a b a 0 := by
  unfold onLine
  rw [(dot_zero b a).1, if_pos (by omega), (dot_zero b a).2]
  omega
theorem onLine_to (a b : Pt) : onLine a b b 0 := by
  rw [onLine_rev]; exact onLine_from b a
theorem above_self {p q : Int} (h : p ≤ q) : aboveP p q 0 := .inl (by omega)
theorem ray_self (u w : Int) : rayP u w u w 0 := by
  unfold rayP dt2 crs
  have h1 : 0 ≤ u * u := by rw [← Int.natAbs_mul_self]; omega
  have h2 : 0 ≤ w * w := by rw [← Int.natAbs_mul_self]; omega
  have e : u * w - w * u = 0 := by rw [Int.mul_comm]; omega
  rw [e]
  refine ⟨by omega, by simp⟩
theorem onItem_ends {it : Itm} (h : validI it) : onItemP it (fine it.fr) 0 ∧ onItemP it (fine it.to) 0 := by
  unfold onItemP
  by_cases h3 : it.kind = 3
  · rw [if_pos h3, if_pos h3]
    unfold onArcP
    refine ⟨⟨h, above_self (Int.min_le_left ..), above_self (Int.le_max_left ..), by omega, by omega, .inr (.inr (.inl (ray_self ..)))⟩,
      ⟨h, above_self (Int.min_le_right ..), above_self (Int.le_max_right ..), by omega, by omega, .inr (.inr (.inr (ray_self ..)))⟩⟩
  · rw [if_neg h3, if_neg h3]
    exact ⟨⟨h, onLine_from _ _⟩, ⟨h, onLine_to _ _⟩⟩

/-! and it grows -/
theorem sqm_le {a b : Int} (h0 : 0 ≤ a) (h : a ≤ b) : a * a ≤ b * b := Int.mul_self_le_mul_self h0 h
theorem above_grows {p q e f : Int} (hq : 0 ≤ q) (he : 0 ≤ e) (hf : e ≤ f) (h : aboveP p q e) : aboveP p q f := by
  have hs := sqm_le he hf
  unfold aboveP at *
  rw [show 4 * e * e = 4 * (e * e) from Int.mul_assoc ..] at h
  rw [show 4 * f * f = 4 * (f * f) from Int.mul_assoc ..]
  generalize e * e = s at *
  generalize f * f = t at *
  by_cases c : p - q - t ≤ 0
  · exact .inl c
  · right
    rcases h with h | h
    · omega
    · have h1 := sqm_le (a := p - q - t) (b := p - q - s) (by omega) (by omega)
      have h2 := Int.mul_le_mul_of_nonneg_right (show 4 * s ≤ 4 * t by omega) hq
      omega
theorem ray_grows {u w x y e f : Int} (he : 0 ≤ e) (hf : e ≤ f) (h : rayP u w x y e) : rayP u w x y f := by
  have hs := sqm_le he hf
  have h1 : 0 ≤ u * u := by rw [← Int.natAbs_mul_self]; omega
  have h2 : 0 ≤ w * w := by rw [← Int.natAbs_mul_self]; omega
  refine ⟨h.1, Int.le_trans h.2 (Int.mul_le_mul_of_nonneg_right hs ?_)⟩
  unfold sq2; omega
theorem sq2_nn (u w : Int) : 0 ≤ sq2 u w := by
  have h1 : 0 ≤ u * u := by rw [← Int.natAbs_mul_self]; omega
  have h2 : 0 ≤ w * w := by rw [← Int.natAbs_mul_self]; omega
  unfold sq2; omega
theorem onLine_grows {a b p : Pt} {e f : Int} (he : 0 ≤ e) (hf : e ≤ f) (h : onLine a b p e) : onLine a b p f := by
  have hs := sqm_le he hf
  unfold onLine at *
  split
  · rename_i c; rw [if_pos c] at h; omega
  · rename_i c
    rw [if_neg c] at h
    split
    · rename_i c2; rw [if_pos c2] at h; omega
    · rename_i c2
      rw [if_neg c2] at h
      refine Int.le_trans (Int.mul_le_mul_of_nonneg_right ?_ ?_) h
      · omega
      · unfold dotP
        have h1 : 0 ≤ (subP b a).x * (subP b a).x := by rw [← Int.natAbs_mul_self]; omega
        have h2 : 0 ≤ (subP b a).y * (subP b a).y := by rw [← Int.natAbs_mul_self]; omega
        have h3 : 0 ≤ (subP b a).z * (subP b a).z := by rw [← Int.natAbs_mul_self]; omega
        omega
theorem onItem_grows {it : Itm} {q : Pt} {e f : Int} (he : 0 ≤ e) (hf : e ≤ f) (h : onItemP it q e) : onItemP it q f := by
  unfold onItemP at *
  refine ⟨h.1, ?_⟩
  have h2 := h.2
  by_cases h3 : it.kind = 3
  · rw [if_pos h3] at *
    unfold onArcP at *
    obtain ⟨a1, a2, a3, a4, a5⟩ := h2
    refine ⟨above_grows (sq2_nn _ _) he hf a1, above_grows ?_ he hf a2, by omega, by omega, ?_⟩
    · have := sq2_nn (pU it (fine it.fr)) (pW it (fine it.fr))
      omega
    · rcases a5 with a5 | a5 | a5 | a5
      · exact .inl a5
      · exact .inr (.inl a5)
      · exact .inr (.inr (.inl (ray_grows he hf a5)))
      · exact .inr (.inr (.inr (ray_grows he hf a5)))
  · rw [if_neg h3] at *
    exact onLine_grows he hf h2

/-! the laws -/
theorem row_at (items : List Itm) (i : Nat) (h : i < items.length) : nth [] (items.map itmR) i = itmR items[i] := nth_map _ _ _ _ h
theorem a_EndsL {MO MF MM MD MA : List AC → Option (List AC)} {items : List Itm} (hF : ∀ {p : Pt}, bd 100000000 p → MF [I p.x, I p.y, I p.z] = some (ptR (fine p)))
    (hO : ∀ it ∈ items, ∀ {q : Pt}, bd 33554432 q → ∃ v, MO (itmR it ++ [I q.x, I q.y, I q.z, I 0]) = some [B v] ∧ (v = true ↔ onItemP it q 0))
    (hv : ∀ it ∈ items, validI it) (hl : items.length ≤ 1000) :
    ∀ i : Nat, i ≤ items.length → ∃ o, loopC (st_cnclaw41_ContourEnds_4 MO MF MM MD MA) [.view kItm (items.map itmR), I items.length, I i] = some o ∧ o.1 ≠ 0 ∧ o = (2, []) := by
  refine loop_nat (S := Nat) (fun i => [.view kItm (items.map itmR), I items.length, I i]) (fun i => i ≤ items.length) (fun i => items.length - i) (fun o => o = (2, [])) ?_
  intro i hi
  rw [st_cnclaw41_ContourEnds_4_eq]
  simp only [go_sem, Int.toNat_natCast, List.length_map]
  by_cases c : i < items.length
  case neg => rw [if_neg (by omega)]; exact .inr ⟨_, rfl, by simp, rfl⟩
  rw [if_pos (by omega), if_pos (by omega)]
  have hm : items[i] ∈ items := List.getElem_mem c
  have hvi := hv _ hm
  obtain ⟨o1, o2⟩ := onItem_ends hvi
  obtain ⟨v1, e1, h1⟩ := hO _ hm (bd_mono (fine_bd hvi.2.1) (by omega))
  obtain ⟨v2, e2, h2⟩ := hO _ hm (bd_mono (fine_bd hvi.2.2.1) (by omega))
  have g1 := hF (bd_mono hvi.2.1 (by omega))
  have g2 := hF (bd_mono hvi.2.2.1 (by omega))
  have hr := row_at items i c
  generalize items[i] = it at *
  have t1 := h1.2 o1
  have t2 := h2.2 o2
  subst t1 t2
  simp only [itmR, List.cons_append, List.nil_append] at e1 e2 hr
  simp only [hr, go_sem, g1, g2, e1, e2]
  left
  refine ⟨i + 1, ?_, by omega, by omega⟩
  rw [if_neg (by simp), if_neg (by simp), wrap_id (by omega)]
  rfl
theorem a_Ends {MO MF MM MD MA : List AC → Option (List AC)} {N : List AC → Option (Nat × List AC)} {l : List (List AC)} {most : Int} (hA : MA [] = some [B true]) (hD : MD [I most, I 7] = some [I (most % 7)])
    (hM : ∀ {most : Int}, most ≤ 1000 → ∃ (p : Pt) (items : List Itm), MM [.view kInts l, I most] = some [.view kItm (items.map itmR)] ∧ Motions 40004 p items ∧ (items = [] ∨ items.length ≤ most))
    (hN : ∀ items : List Itm, items.length ≤ 1000 → (∀ it ∈ items, validI it) → N [.view kItm (items.map itmR), I items.length, I 0] = some (2, [])) :
    mf_cnclaw41_ContourEnds MO MF MM MD MA N [.view kInts l, I most] = some [B true] := by
  rw [mf_cnclaw41_ContourEnds_eq]
  obtain ⟨p, items, h1, h2, h3⟩ := hM (most := most % 7) (by omega)
  have hlen : items.length ≤ 1000 := by
    rcases h3 with h | h
    · rw [h]; simp
    · omega
  have h4 := hN items hlen fun it hi => by
    obtain ⟨g1, g2, g3, g4, g5⟩ := h2.made it hi
    exact made_valid g1 (bd_mono g4 (by omega)) (bd_mono g5 (by omega))
  simp only [go_sem, hA, hD, h1, List.length_map, h4]
  simp
theorem s_Ends {l : List (List AC)} (hl : Src l) {most : Int} (hm : i64 most) : m_cnclaw41_ContourEnds [.view kInts l, I most] = some [B true] :=
  a_Ends m_cnclaw41_awake_eq (s_cncmill_Mod hm (by omega)) (fun h => s_Motions hl h) (fun items h1 h2 => by
    obtain ⟨o, h3, -, rfl⟩ := a_EndsL (MM := m_cncmill_Motions) (MD := m_cncmill_Mod) (MA := m_cnclaw41_awake) s_Fine (fun it _ _ hq => s_contour_OnItem it hq (by omega)) h2 h1 0 (by omega)
    exact h3)

theorem a_OnItems {MO : List AC → Option (List AC)} {items : List Itm} {q : Pt} {e : Int} (hO : ∀ it ∈ items, ∃ v, MO (itmR it ++ [I q.x, I q.y, I q.z, I e]) = some [B v] ∧ (v = true ↔ onItemP it q e)) (hl : items.length ≤ 1000) :
    ∃ v, mf_contour_OnItems MO (loopC (st_contour_OnItems_2 MO)) [.view kItm (items.map itmR), I q.x, I q.y, I q.z, I e] = some [B v] ∧ (v = true ↔ ∃ it ∈ items, onItemP it q e) := by
  have key : ∀ i : Nat, (i ≤ items.length ∧ ∀ j (h : j < items.length), j < i → ¬ onItemP items[j] q e) → ∃ o, loopC (st_contour_OnItems_2 MO) [I e, .view kItm (items.map itmR), I items.length, I i, I q.x, I q.y, I q.z] = some o ∧ o.1 ≠ 0 ∧
      ((o = (1, [B true]) ∧ ∃ it ∈ items, onItemP it q e) ∨ (o = (2, []) ∧ ¬ ∃ it ∈ items, onItemP it q e)) := by
    refine loop_nat (S := Nat) (fun i => [I e, .view kItm (items.map itmR), I items.length, I i, I q.x, I q.y, I q.z]) _ (fun i => items.length - i) _ ?_
    rintro i ⟨hi, hno⟩
    rw [st_contour_OnItems_2_eq]
    simp only [go_sem, Int.toNat_natCast, List.length_map]
    by_cases c : i < items.length
    case neg =>
      rw [if_neg (by omega)]
      refine .inr ⟨_, rfl, by simp, .inr ⟨rfl, ?_⟩⟩
      rintro ⟨it, hit, h⟩
      obtain ⟨j, hj, rfl⟩ := List.mem_iff_getElem.1 hit
      exact hno j hj (by omega) h
    rw [if_pos (by omega), if_pos (by omega)]
    have hm : items[i] ∈ items := List.getElem_mem c
    obtain ⟨v1, e1, h1⟩ := hO _ hm
    have hr := row_at items i c
    simp only [itmR, List.cons_append, List.nil_append] at e1 hr
    simp only [hr, go_sem, e1]
    by_cases hv : v1 = true
    · rw [if_pos hv]
      exact .inr ⟨_, rfl, by simp, .inl ⟨rfl, _, hm, h1.1 hv⟩⟩
    · rw [if_neg hv, wrap_id (by omega)]
      refine .inl ⟨i + 1, rfl, ⟨by omega, fun j hj hji => ?_⟩, by omega⟩
      by_cases hj2 : j = i
      · subst hj2; exact fun h => hv (h1.2 h)
      · exact hno j hj (by omega)
  obtain ⟨o, h1, h2, h3⟩ := key 0 ⟨by omega, fun j _ h => by omega⟩
  rw [mf_contour_OnItems_eq]
  simp only [List.length_map]
  have h1' : loopC (st_contour_OnItems_2 MO) [I e, .view kItm (items.map itmR), I items.length, I 0, I q.x, I q.y, I q.z] = some o := h1
  rw [h1']
  rcases h3 with ⟨rfl, h⟩ | ⟨rfl, h⟩
  · simp only [go_sem]; exact ⟨_, rfl, iff_of_true rfl h⟩
  · simp only [go_sem]; exact ⟨_, rfl, iff_of_false (by simp) h⟩
theorem s_OnItems {items : List Itm} {q : Pt} (hq : bd 33554432 q) {e : Int} (he : 0 ≤ e ∧ e ≤ 32000) (hl : items.length ≤ 1000) :
    ∃ v, m_contour_OnItems [.view kItm (items.map itmR), I q.x, I q.y, I q.z, I e] = some [B v] ∧ (v = true ↔ ∃ it ∈ items, onItemP it q e) :=
  a_OnItems (fun it _ => s_contour_OnItem it hq he) hl
theorem a_beside2 {M : List AC → Option (List AC)} {p d : Pt} {b : Nat} (hp : bd b p) (hb : b ≤ 1000000000) (h1 : M [I d.x, I 41] = some [I (d.x % 41)]) (h2 : M [I d.y, I 41] = some [I (d.y % 41)]) (h3 : M [I d.z, I 41] = some [I (d.z % 41)]) :
    ∃ q : Pt, mf_cnclaw41_beside M [I p.x, I p.y, I p.z, I d.x, I d.y, I d.z] = some (ptR q) ∧ bd (b + 20) q := by
  rw [mf_cnclaw41_beside_eq]
  simp only [go_sem, h1, h2, h3]
  obtain ⟨g1, g2, g3⟩ := hp
  rw [wrap_id (x := d.x % 41 - 20) (by omega), wrap_id (x := d.y % 41 - 20) (by omega), wrap_id (x := d.z % 41 - 20) (by omega), wrap_id (x := p.x + (d.x % 41 - 20)) (by omega), wrap_id (x := p.y + (d.y % 41 - 20)) (by omega), wrap_id (x := p.z + (d.z % 41 - 20)) (by omega)]
  exact ⟨⟨_, _, _⟩, rfl, by simp only; omega, by simp only; omega, by simp only; omega⟩
theorem s_beside2 {p d : Pt} {b : Nat} (hp : bd b p) (hb : b ≤ 1000000000) (h1 : i64 d.x) (h2 : i64 d.y) (h3 : i64 d.z) : ∃ q : Pt, m_cnclaw41_beside [I p.x, I p.y, I p.z, I d.x, I d.y, I d.z] = some (ptR q) ∧ bd (b + 20) q :=
  a_beside2 hp hb (s_cncmill_Mod h1 (by omega)) (s_cncmill_Mod h2 (by omega)) (s_cncmill_Mod h3 (by omega))
theorem a_GrowsL {MS MO MB MF MM MD MA : List AC → Option (List AC)} {items : List Itm} {q : Pt} {e more : Int} (he : 0 ≤ e) (hm : 0 ≤ more) (hw : IntKind.i64.wrap (e + more) = e + more)
    (hO : ∀ it ∈ items, ∀ f : Int, (f = e ∨ f = e + more) → ∃ v, MO (itmR it ++ [I q.x, I q.y, I q.z, I f]) = some [B v] ∧ (v = true ↔ onItemP it q f)) (hl : items.length ≤ 1000) :
    ∀ i : Nat, i ≤ items.length → ∃ o, loopC (st_cnclaw41_ContourGrows_9 MS MO MB MF MM MD MA) [I e, I more, .view kItm (items.map itmR), .view kItm (items.map itmR), I items.length, I i, I q.x, I q.y, I q.z] = some o ∧ o.1 ≠ 0 ∧
      o = (2, [I e, I more, .view kItm (items.map itmR), I q.x, I q.y, I q.z]) := by
  refine loop_nat (S := Nat) (fun i => [I e, I more, .view kItm (items.map itmR), .view kItm (items.map itmR), I items.length, I i, I q.x, I q.y, I q.z]) (fun i => i ≤ items.length) (fun i => items.length - i) (fun o => o = (2, [I e, I more, .view kItm (items.map itmR), I q.x, I q.y, I q.z])) ?_
  intro i hi
  rw [st_cnclaw41_ContourGrows_9_eq]
  simp only [go_sem, Int.toNat_natCast, List.length_map, hw]
  by_cases c : i < items.length
  case neg => rw [if_neg (by omega)]; exact .inr ⟨_, rfl, by simp, rfl⟩
  rw [if_pos (by omega), if_pos (by omega)]
  have hmem : items[i] ∈ items := List.getElem_mem c
  obtain ⟨v1, e1, h1⟩ := hO _ hmem e (.inl rfl)
  obtain ⟨v2, e2, h2⟩ := hO _ hmem (e + more) (.inr rfl)
  have hr := row_at items i c
  generalize items[i] = it at *
  simp only [itmR, List.cons_append, List.nil_append] at e1 e2 hr
  simp only [hr, go_sem, e1, e2]
  left
  refine ⟨i + 1, ?_, by omega, by omega⟩
  rw [wrap_id (by omega)]
  by_cases hv : v1 = true
  · have hv2 := h2.2 (onItem_grows he (by omega) (h1.1 hv))
    rw [if_pos hv, if_neg (by simp [hv2])]
    rfl
  · rw [if_neg hv]; rfl
theorem a_Grows {MS MO MB MF MM MD MA : List AC → Option (List AC)} {N : List AC → Option (Nat × List AC)} {l : List (List AC)} {most k : Int} {d : Pt} {e more : Int} (hA : MA [] = some [B true])
    (hD : ∀ {v n : Int}, v = most ∨ v = k ∨ v = e ∨ v = more → (0 < n ∧ n ≤ 1000) → MD [I v, I n] = some [I (v % n)])
    (hM : ∀ {most : Int}, most ≤ 1000 → ∃ (p : Pt) (items : List Itm), MM [.view kInts l, I most] = some [.view kItm (items.map itmR)] ∧ Motions 40004 p items ∧ (items = [] ∨ items.length ≤ most))
    (hF : ∀ {p : Pt}, bd 100000000 p → MF [I p.x, I p.y, I p.z] = some (ptR (fine p)))
    (hB : ∀ p : Pt, bd 1000000 p → ∃ q : Pt, MB [I p.x, I p.y, I p.z, I d.x, I d.y, I d.z] = some (ptR q) ∧ bd 1000020 q)
    (hS : ∀ (items : List Itm) (q : Pt) (f : Int), bd 33554432 q → (0 ≤ f ∧ f ≤ 32000) → items.length ≤ 1000 → ∃ v, MS [.view kItm (items.map itmR), I q.x, I q.y, I q.z, I f] = some [B v] ∧ (v = true ↔ ∃ it ∈ items, onItemP it q f))
    (hN : ∀ (items : List Itm) (q : Pt) (e more : Int), bd 33554432 q → items.length ≤ 1000 → (0 ≤ e ∧ e ≤ 60) → (0 ≤ more ∧ more ≤ 60) → N [I e, I more, .view kItm (items.map itmR), .view kItm (items.map itmR), I items.length, I 0, I q.x, I q.y, I q.z] = some (2, [I e, I more, .view kItm (items.map itmR), I q.x, I q.y, I q.z])) :
    mf_cnclaw41_ContourGrows MS MO MB MF MM MD MA N [.view kInts l, I most, I k, I d.x, I d.y, I d.z, I e, I more] = some [B true] := by
  rw [mf_cnclaw41_ContourGrows_eq]
  obtain ⟨p, items, h1, h2, h3⟩ := hM (most := 1 + most % 5) (by omega)
  have hlen : items.length ≤ 1000 := by
    rcases h3 with h | h
    · rw [h]; simp
    · omega
  have d1 := @hD most 5 (.inl rfl) (by omega)
  have d3 := @hD e 60 (.inr (.inr (.inl rfl))) (by omega)
  have d4 := @hD more 60 (.inr (.inr (.inr rfl))) (by omega)
  simp only [go_sem, hA, d1, wrap_id (x := 1 + most % 5) (by omega), h1, List.length_map, d3, d4]
  rw [if_neg (by simp)]
  by_cases c : items.length = 0
  · rw [if_pos (by omega)]
  rw [if_neg (by omega)]
  have d2 := @hD k items.length (.inr (.inl rfl)) (by omega)
  have hk1 : 0 ≤ k % (items.length : Int) := Int.emod_nonneg _ (by omega)
  have hk2 : k % (items.length : Int) < items.length := Int.emod_lt_of_pos _ (by omega)
  simp only [d2, go_sem]
  rw [if_pos ⟨hk1, hk2⟩]
  obtain ⟨j, hj⟩ : ∃ j : Nat, k % (items.length : Int) = j := ⟨(k % (items.length : Int)).toNat, by omega⟩
  have hj2 : j < items.length := by omega
  rw [hj]
  simp only [Int.toNat_natCast]
  have hm := h2.made _ (List.getElem_mem hj2)
  have hr := row_at items j hj2
  generalize items[j] = it at *
  have f1 := hF (bd_mono hm.2.2.2.2 (by omega))
  obtain ⟨q, f2, f3⟩ := hB (fine it.to) (bd_mono (fine_bd hm.2.2.2.2) (by omega))
  simp only [itmR] at hr
  simp only [hr, go_sem, f1, f2]
  have hq : bd 33554432 q := bd_mono f3 (by omega)
  have hn := hN items q (e % 60) (more % 60) hq hlen (by omega) (by omega)
  obtain ⟨v1, s1, t1⟩ := hS items q (e % 60) hq (by omega) hlen
  obtain ⟨v2, s2, t2⟩ := hS items q (e % 60 + more % 60) hq (by omega) hlen
  simp only [hn, go_sem, s1, wrap_id (x := e % 60 + more % 60) (by omega), s2]
  by_cases hv : v1 = true
  · obtain ⟨i, hi1, hi2⟩ := t1.1 hv
    have hv2 := t2.2 ⟨i, hi1, onItem_grows (by omega) (by omega) hi2⟩
    simp [hv, hv2]
  · simp [hv]
theorem s_Grows {l : List (List AC)} (hl : Src l) {most k : Int} {d : Pt} {e more : Int} (h1 : i64 most) (h2 : i64 k) (h3 : i64 d.x) (h4 : i64 d.y) (h5 : i64 d.z) (h6 : i64 e) (h7 : i64 more) :
    m_cnclaw41_ContourGrows [.view kInts l, I most, I k, I d.x, I d.y, I d.z, I e, I more] = some [B true] := by
  refine a_Grows m_cnclaw41_awake_eq (fun hv hn => s_cncmill_Mod ?_ (by omega)) (fun h => s_Motions hl h) s_Fine (fun p hp => s_beside2 hp (by omega) h3 h4 h5) (fun items q f hq hf hl => s_OnItems hq hf hl) (fun items q e more hq hl he hm => ?_)
  · rcases hv with rfl | rfl | rfl | rfl <;> assumption
  · obtain ⟨o, h8, -, rfl⟩ := a_GrowsL (MS := m_contour_OnItems) (MB := m_cnclaw41_beside) (MF := m_cncref23_Fine) (MM := m_cncmill_Motions) (MD := m_cncmill_Mod) (MA := m_cnclaw41_awake) (items := items) (q := q) (e := e) (more := more) he.1 hm.1 (wrap_id (by omega))
      (fun it _ f hf => s_contour_OnItem it hq (by omega)) hl 0 (by omega)
    exact h8
end Go.Bm
