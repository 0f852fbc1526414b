/- laid together -/
import Derived.Test.YtdllaekpkcanbaaGreatPrSz
import Derived.Test.YtdllaekpkcanbaaGreatMy1
import Derived.Test.YtdllaekpkcanbaaGreatPrV2
set_option linter.unusedVariables false
set_option linter.unusedSimpArgs false
/- the law PathValid, over the models -/
set_option maxRecDepth 100000
namespace Go.Bm
open Classical

end Go.Bm
/- the law PathRaw, over the models -/
set_option maxRecDepth 100000
namespace Go.Bm
open Classical

noncomputable def builtP (items : List Itm) : Pth := if Qfh items = 0 then Qgj items else ⟨⟨0, 0, 0⟩, [], []⟩
theorem build_eq {items : List Itm} {o : Option (List AC)} (h : o = if Qfh items = 0 then some (pthR (Qgj items) ++ [I 0]) else some [I 0, I 0, I 0, .view kSgm [], .view kMrk [], I (Qfh items)]) : o = some (pthR (builtP items) ++ [I (Qfh items)]) := by
 rw [h]
 unfold builtP
 by_cases c : Qfh items = 0
 ·rw [if_pos c, if_pos c, c]
 ·rw [if_neg c, if_neg c]
  rfl
theorem built_len {items : List Itm} (hl : items.length <= 15) : (builtP items).segs.length <= 1000000 /\ (builtP items).marks.length <= 1000000 := by
 unfold builtP
 by_cases c : Qfh items = 0
 ·rw [if_pos c]
  have h1 := (goodP_of hl c).count
  have h2 : (Qgj items).marks.length = items.length := (buildN_ok (check_right c).2 items.length (Nat.le_refl _)).marks
  omega
 ·rw [if_neg c]; simp
theorem set_it (l : List Itm) (i : Nat) (t : Itm) : (l.map itmR).set i (itmR t) = (l.set i t).map itmR := by rw [List.map_set]
theorem a_PathRaw {MRS MPS MS MRB MPB MD MI MW : List AC -> Option (List AC)} {l : List (List AC)} {raw items : List Itm} {k i : Int} (hW : MW [] = some [B true]) (hI : MI [.view Qbo l, I 5, B false] = some [.view kItm (items.map itmR)]) (hlen : items.length <= 15)
  (hD : items ≠ [] -> MD [I k, I items.length] = some [I i] /\ 0 <= i /\ i < items.length)
  (hPB : ∀ {x : List Itm}, x.length <= 15 -> MPB [.view kItm (x.map itmR)] = some (pthR (builtP x) ++ [I (Qfh x)])) (hRB : ∀ {x : List Itm}, x.length <= 15 -> MRB [.view kItm (x.map itmR)] = some (pthR (builtP x) ++ [I (Qfh x)]))
  (hS : ∀ {x : List Itm}, x.length <= 15 -> MS (pthR (builtP x) ++ pthR (builtP x)) = some [B true])
  (hT : ∀ {x : List Itm}, x.length <= 15 -> ∃ v, MPS [.view kItm (x.map itmR)] = some [I v] /\ MRS [.view kItm (x.map itmR)] = some [I v]) :
  mf_cnclaw25_PathRaw MRS MPS MS MRB MPB MD MI MW [.view kItm (raw.map itmR), .view Qbo l, I k] = some [B true] := by
 rw [mf_cnclaw25_PathRaw_eq]
 simp only [pthR, List.cons_append, List.nil_append] at hPB hRB hS
 by_cases h1 : raw.length > 8
 ·simp only [go_sem, hW, List.length_map]
  rw [if_neg (by simp), if_pos (by omega)]
 have hr : raw.length <= 15 := by omega
 obtain ⟨v, t1, t2⟩ := hT hr
 have b1 := hPB hr
 have b2 := hRB hr
 have b3 := hS hr
 have hl2 : ∀ (j : Nat) (t : Itm), (items.set j t).length <= 15 := fun j t => by rw [List.length_set]; exact hlen
 have h0 : ¬ ((raw.length : Int) > 8) := by omega
 have hb : (raw.length * 176 <= 140737488355328) := by omega
 simp only [go_sem, hW, List.length_map, List.nil_append, hI, b1, b2, b3, t1, t2, if_neg h0, if_pos hb]
 by_cases hi : items = []
 ·have e : ¬ ((items.length : Int) > 0) := by rw [hi]; simp
  rw [if_neg (by simp), if_neg e]
  obtain ⟨w, s1, s2⟩ := hT hlen
  simp only [hPB hlen, hRB hlen, hS hlen, s1, s2, go_sem]
  simp
 obtain ⟨d1, d2, d3⟩ := hD hi
 have hlen0 : 0 < items.length := List.length_pos_iff.2 hi
 rw [if_neg (by simp), if_pos (by omega)]
 by_cases hr0 : raw = []
 ·have e : ¬ ((raw.length : Int) > 0) := by rw [hr0]; simp
  rw [if_neg e]
  obtain ⟨w, s1, s2⟩ := hT hlen
  simp only [hPB hlen, hRB hlen, hS hlen, s1, s2, go_sem]
  simp
 have hraw0 : 0 < raw.length := List.length_pos_iff.2 hr0
 obtain ⟨j, rfl⟩ := Int.eq_ofNat_of_zero_le d2
 have hrow := Qgb hraw0
 have hset := set_it items j (itA raw 0)
 simp only [itmR] at hset
 have hx := hl2 j (itA raw 0)
 obtain ⟨w, s1, s2⟩ := hT hx
 rw [if_pos (by omega)]
 simp only [d1, go_sem, hrow, Int.toNat_natCast, hset, hPB hx, hRB hx, hS hx, s1, s2]
 rw [if_pos (by omega), if_pos (by omega)]
 simp
theorem s_PathRaw {raw : List Itm} {l : List (List AC)} (hl : Src l) {k : Int} (hk : i64 k) : Qiz [.view kItm (raw.map itmR), .view Qbo l, I k] = some [B true] := by
 obtain ⟨p, items, h1, h2, h3, -, h4⟩ := s_Items hl (most := 5) (by omega) false
 have hlen : items.length <= 15 := by omega
 have hD : items ≠ [] -> ∃ i, Qfq [I k, I items.length] = some [I i] /\ 0 <= i /\ i < items.length := by
  intro hi
  have hlen0 : 0 < items.length := List.length_pos_iff.2 hi
  exact ⟨_, s_cncmill_Mod hk (by omega), Int.emod_nonneg _ (by omega), Int.emod_lt_of_pos _ (by omega)⟩
 have key : ∀ i, (items ≠ [] -> Qfq [I k, I items.length] = some [I i] /\ 0 <= i /\ i < items.length) -> Qiz [.view kItm (raw.map itmR), .view Qbo l, I k] = some [B true] := fun i hi =>
  a_PathRaw (MPB := m_path_Build) (MRB := Qdh) (i := i) m_cnclaw25_awake_eq h1 hlen hi (fun h => build_eq (s_path_Build h)) (fun h => build_eq (s_Build h)) (fun h => s_SamePath (built_len h).1 (built_len h).2)
   (fun h => ⟨_, s_path_Settled h, s_ref_Settled h⟩)
 by_cases hi : items = []
 ·exact key 0 fun h => absurd hi h
 ·obtain ⟨i, hi2⟩ := hD hi
  exact key i fun _ => hi2
theorem s_PathRawR {r : List AC} (h : okR [Kd.sl kItm] r) {l : List (List AC)} (hl : Src l) {k : Int} (hk : i64 k) : Qiz [.view kItm (Qfi (nth .dead r 0)), .view Qbo l, I k] = some [B true] := by
 match r, h with
 | [], h => exact h.elim
 | a :: _, h =>
  have ha := h.1
  unfold okC at ha
  have e : Qfi a = ((Qfi a).map itmOf).map itmR := rows_of itmR_of fun c hc => (ha.2 c hc).2
  show Qiz [.view kItm (Qfi a), .view Qbo l, I k] = _
  rw [e]
  exact s_PathRaw hl hk
end Go.Bm
/- what a law's arguments are known to be -/
set_option maxRecDepth 100000
namespace Go.Bm

theorem okR_int {r : List AC} (h : okR Qbo r) : i64 (Qas (nth .dead r 0)) := by
 match r, h with
 | [], h => exact h.elim
 | a :: _, h => exact okC_int h.1
theorem okR_src {r : List AC} (h : okR [Kd.sl Qbo] r) : Src (Qfi (nth .dead r 0)) := by
 match r, h with
 | [], h => exact h.elim
 | a :: _, h =>
  have h1 := h.1
  unfold okC at h1
  refine ⟨?_, fun c hc => okR_int (h1.2 c hc).1⟩
  have h2 := h1.1
  simp only [maxLen] at h2
  show (Qfi a).length <= _
  omega
end Go.Bm
