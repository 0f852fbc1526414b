/- laid together -/
import Derived.Test.YtdllaekpkcanbaaGreatPrAtF
import Derived.Test.YtdllaekpkcanbaaGreatMy1
import Derived.Test.YtdllaekpkcanbaaGreatPrI3
set_option linter.unusedVariables false
set_option linter.unusedSimpArgs false
/- the laws PathAt and PathUnit, over the models -/
set_option maxRecDepth 100000
namespace Go.Bm
open Classical

theorem a_PathAt {ML MA MPA MF MPF MD MRL MP MW : List AC → Option (List AC)} {l : List (List AC)} {s : Int} {p : Pth} (hW : MW [] = some [B true]) (hP : MP [.view kInts l, I 5] = some (pthR p)) (hs : i64 s)
    (hn : 0 ≤ sumLen p.segs ∧ sumLen p.segs ≤ 263886834032640) (hL : ML (pthR p) = some [I (sumLen p.segs)]) (hRL : MRL (pthR p) = some [I (sumLen p.segs)]) (hD : MD [I s, I (sumLen p.segs + 1)] = some [I (s % (sumLen p.segs + 1))])
    (hF : ∀ {s : Int}, i64 s → ∃ i d : Int, MPF (pthR p ++ [I s]) = some [I i, I d] ∧ MF (pthR p ++ [I s]) = some [I i, I d]) (hA : ∀ {s : Int}, i64 s → ∃ q : Pt, MPA (pthR p ++ [I s]) = some (ptR q) ∧ MA (pthR p ++ [I s]) = some (ptR q)) :
    mf_cnclaw25_PathAt ML MA MPA MF MPF MD MRL MP MW [.view kInts l, I s] = some [B true] := by
  have hm : i64 (s % (sumLen p.segs + 1)) := by
    have := Int.emod_nonneg s (show sumLen p.segs + 1 ≠ 0 by omega)
    have := Int.emod_lt_of_pos s (show 0 < sumLen p.segs + 1 by omega)
    unfold i64; omega
  obtain ⟨i1, d1, f1, g1⟩ := hF hs
  obtain ⟨i2, d2, f2, g2⟩ := hF hm
  obtain ⟨i3, d3, f3, g3⟩ := hF (s := 0) (by unfold i64; omega)
  obtain ⟨i4, d4, f4, g4⟩ := hF (s := sumLen p.segs) (by unfold i64; omega)
  obtain ⟨q1, a1, b1⟩ := hA hs
  obtain ⟨q2, a2, b2⟩ := hA hm
  obtain ⟨q3, a3, b3⟩ := hA (s := 0) (by unfold i64; omega)
  obtain ⟨q4, a4, b4⟩ := hA (s := sumLen p.segs) (by unfold i64; omega)
  rw [mf_cnclaw25_PathAt_eq]
  simp only [List.cons_append, List.nil_append, pthR] at *
  simp only [go_sem, hW, hP, hRL, wrap_id (x := sumLen p.segs + 1) (by omega), hD, f1, g1, f2, g2, f3, g3, f4, g4, a1, b1, a2, b2, a3, b3, a4, b4, hL]
  simp
theorem s_PathAt {l : List (List AC)} (hl : Src l) {s : Int} (hs : i64 s) : m_cnclaw25_PathAt [.view kInts l, I s] = some [B true] := by
  obtain ⟨p, h1, h2⟩ := s_MillPath hl (most := 5) (by omega)
  have hn := sum_path h2
  refine a_PathAt m_cnclaw25_awake_eq h1 hs hn (s_path_Length h2.ok) (s_ref_Length h2.ok) (s_cncmill_Mod hs (by omega)) (fun {s} hs => ?_) (fun {s} hs => ⟨_, s_path_At h2 hs, s_ref_At h2 hs⟩)
  have a := s_path_Find h2.ok hs
  have b := s_ref_Find h2.ok hs
  by_cases c : p.segs = []
  · rw [if_pos c] at a b; exact ⟨_, _, a, b⟩
  · rw [if_neg c] at a b; exact ⟨_, _, a, b⟩
end Go.Bm
/- what a law's arguments are known to be -/
set_option maxRecDepth 100000
namespace Go.Bm

theorem okR_int {r : List AC} (h : okR kInts r) : i64 (intOf (nth .dead r 0)) := by
  match r, h with
  | [], h => exact h.elim
  | a :: _, h => exact okC_int h.1
theorem okR_src {r : List AC} (h : okR [Kd.sl kInts] r) : Src (rowsOf (nth .dead r 0)) := by
  match r, h with
  | [], h => exact h.elim
  | a :: _, h =>
    have h1 := h.1
    unfold okC at h1
    refine ⟨?_, fun c hc => okR_int (h1.2 c hc).1⟩
    have h2 := h1.1
    simp only [maxLen] at h2
    show (rowsOf a).length ≤ _
    omega
end Go.Bm
