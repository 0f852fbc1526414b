/- laid together -/
import Derived.Test.YtdllaekpkcanbaaGreatPrAtF
import Derived.Test.YtdllaekpkcanbaaGreatMy1
import Derived.Test.YtdllaekpkcanbaaGreatPrI3
set_option linter.unusedVariables false
set_option linter.unusedSimpArgs false
/- the laws PathAt and PathUnit, over the models -/
set_option maxRecDepth 100000
namespace Go.Bm
open Classical

theorem a_PathUnitL {MA MD ML MP MW : List AC → Option (List AC)} {p : Pth} {s : Int} (hg : GoodPath p) (hs : 0 ≤ s ∧ s ≤ 263886834032640) (hA : ∀ {s : Int}, i64 s → MA (pthR p ++ [I s]) = some (ptR (atP p s))) :
    ∀ (k : Nat) (i : Int), i + k = s + 300 → s ≤ i → loopC (st_cnclaw25_PathUnit_6 MA MD ML MP MW) (I s :: I i :: pthR p) = some (2, [])
  | 0, i, hi, _ => by
    refine loop_end ?_ (by simp)
    rw [st_cnclaw25_PathUnit_6_eq, wrap_id (by omega), bif_neg (by omega)]
  | k + 1, i, hi, hsi => by
    have a1 := hA (s := i) (by unfold i64; omega)
    have a2 := hA (s := i + 1) (by unfold i64; omega)
    have hc := atP_step hg i
    have hst : st_cnclaw25_PathUnit_6 MA MD ML MP MW (I s :: I i :: pthR p) = some (0, I s :: I (i + 1) :: pthR p) := by
      rw [st_cnclaw25_PathUnit_6_eq]
      simp only [List.cons_append, List.nil_append, pthR] at a1 a2
      unfold close1 at hc
      generalize atP p i = a at *
      generalize atP p (i + 1) = b at *
      simp only [go_sem, a1, wrap_id (x := i + 1) (by omega), a2, wrap_id (x := s + 300) (by omega), wrap_id (x := b.x - a.x) (by omega), wrap_id (x := b.y - a.y) (by omega), wrap_id (x := b.z - a.z) (by omega), wrap_id (x := a.x - b.x) (by omega), wrap_id (x := a.y - b.y) (by omega), wrap_id (x := a.z - b.z) (by omega)]
      rw [if_pos (by omega), if_neg (by omega), if_neg (by omega), if_neg (by omega), if_neg (by omega), if_neg (by omega), if_neg (by omega)]
    rw [loop_more hst]
    exact a_PathUnitL hg hs hA k (i + 1) (by omega) (by omega)
theorem a_PathUnit {MA MD ML MP MW : List AC → Option (List AC)} {N : List AC → Option (Nat × List AC)} {l : List (List AC)} {s : Int} {p : Pth} (hW : MW [] = some [B true]) (hP : MP [.view kInts l, I 5] = some (pthR p)) (hn : 0 ≤ sumLen p.segs ∧ sumLen p.segs ≤ 263886834032640)
    (hL : ML (pthR p) = some [I (sumLen p.segs)]) (hD : MD [I s, I (sumLen p.segs + 1)] = some [I (s % (sumLen p.segs + 1))]) (hN : N (I (s % (sumLen p.segs + 1)) :: I (s % (sumLen p.segs + 1)) :: pthR p) = some (2, [])) :
    mf_cnclaw25_PathUnit MA MD ML MP MW N [.view kInts l, I s] = some [B true] := by
  rw [mf_cnclaw25_PathUnit_eq]
  simp only [List.cons_append, List.nil_append, pthR] at *
  simp only [go_sem, hW, hP, hL, wrap_id (x := sumLen p.segs + 1) (by omega), hD, hN]
  simp
theorem s_PathUnit {l : List (List AC)} (hl : Src l) {s : Int} (hs : i64 s) : m_cnclaw25_PathUnit [.view kInts l, I s] = some [B true] := by
  obtain ⟨p, h1, h2⟩ := s_MillPath hl (most := 5) (by omega)
  have hn := sum_path h2
  have := Int.emod_nonneg s (show sumLen p.segs + 1 ≠ 0 by omega)
  have := Int.emod_lt_of_pos s (show 0 < sumLen p.segs + 1 by omega)
  refine a_PathUnit m_cnclaw25_awake_eq h1 hn (s_path_Length h2.ok) (s_cncmill_Mod hs (by omega)) ?_
  exact a_PathUnitL (MA := m_path_At) (MD := m_cncmill_Mod) (ML := m_path_Length) (MP := m_cncmill_Path) (MW := m_cnclaw25_awake) h2 (by omega) (fun hs => s_path_At h2 hs) 300 _ (by omega) (by omega)
end Go.Bm
/- what a law's arguments are known to be -/
set_option maxRecDepth 100000
namespace Go.Bm

theorem okR_int {r : List AC} (h : okR kInts r) : i64 (intOf (nth .dead r 0)) := by
  match r, h with
  | [], h => exact h.elim
  | a :: _, h => exact okC_int h.1
theorem okR_src {r : List AC} (h : okR [Kd.sl kInts] r) : Src (rowsOf (nth .dead r 0)) := by
  match r, h with
  | [], h => exact h.elim
  | a :: _, h =>
    have h1 := h.1
    unfold okC at h1
    refine ⟨?_, fun c hc => okR_int (h1.2 c hc).1⟩
    have h2 := h1.1
    simp only [maxLen] at h2
    show (rowsOf a).length ≤ _
    omega
end Go.Bm
