/- laid together -/
import Derived.Test.YtdllaekpkcanbaaGreatPrIt
import Derived.Test.YtdllaekpkcanbaaGreatPrGd
import Derived.Test.YtdllaekpkcanbaaGreatMy1
import Derived.Test.YtdllaekpkcanbaaGreatPrH
set_option linter.unusedVariables false
set_option linter.unusedSimpArgs false
/- the law PathBuild, over the models -/
set_option maxRecDepth 100000
namespace Go.Bm
open Classical

theorem a_PathBuild {MRS MPS MPV MS MRB MPB MI MD MW : List AC -> Option (List AC)} {l : List (List AC)} {most m : Int} {items : List Itm} (hW : MW [] = some [B true]) (hD : MD [I most, I 12] = some [I m])
  (hI : MI [.view Qbr l, I m, B (decide (most.tmod 2 = 0))] = some [.view kItm (items.map itmR)]) (hPB : MPB [.view kItm (items.map itmR)] = some (pthR (Qfn items) ++ [I 0])) (hRB : MRB [.view kItm (items.map itmR)] = some (pthR (Qfn items) ++ [I 0]))
  (hS : MS (pthR (Qfn items) ++ pthR (Qfn items)) = some [B true]) (hV : MPV (pthR (Qfn items)) = some [B true]) {x : Int} (hPS : MPS [.view kItm (items.map itmR)] = some [I x]) (hRS : MRS [.view kItm (items.map itmR)] = some [I x]) :
  Qml MRS MPS MPV MS MRB MPB MI MD MW [.view Qbr l, I most] = some [B true] := by
 rw [mf_cnclaw25_PathBuild_eq]
 generalize Qfn items = p at *
 simp only [pthR, List.cons_append, List.nil_append] at *
 have e : (most.tmod 2 == 0) = decide (most.tmod 2 = 0) := rfl
 rw [e]
 simp only [hW, hD, hI, hPB, hRB, hS, hV, hPS, hRS, Option.bind_some, Qh5, nth_1, nth_2, nth_3, nth_4, nth_5, Qh8, boolOf_bool, rowsOf_view, gA, jA, bA, wA]
 simp
theorem s_PathBuild {l : List (List AC)} (hl : Src l) {most : Int} (hm : i64 most) : m_cnclaw25_PathBuild [.view Qbr l, I most] = some [B true] := by
 have h12 : 0 <= most % 12 /\ most % 12 < 12 := ⟨Int.emod_nonneg _ (by omega), Int.emod_lt_of_pos _ (by omega)⟩
 obtain ⟨p, items, h1, h2, h3, -⟩ := s_Items hl (most := most % 12) (by omega) (decide (most.tmod 2 = 0))
 have hlen : items.length <= 15 := by omega
 have hc := items_check (by omega) h2 (by omega)
 have hpb := s_path_Build hlen
 have hrb := s_Build hlen
 rw [if_pos hc] at hpb hrb
 have hg := goodP_of hlen hc
 have hmk : (Qfn items).marks.length <= 80000 := by
  have := (buildN_ok (check_right hc).2 items.length (Nat.le_refl _)).marks
  unfold Qfn
  simp only
  omega
 have hv := s_path_Valid hg.count hmk
 rw [decide_eq_true (path_valid h2 hlen)] at hv
 exact a_PathBuild m_cnclaw25_awake_eq (s_cncmill_Mod hm (by omega)) h1 hpb hrb (s_SamePath (by have := hg.count; omega) (by omega)) hv (s_path_Settled hlen) (s_ref_Settled hlen)
end Go.Bm
/- what a law's arguments are known to be -/
set_option maxRecDepth 100000
namespace Go.Bm

theorem okR_int {r : List AC} (h : okR Qbr r) : i64 (Qa1 (nth .dead r 0)) := by
 match r, h with
 | [], h => exact h.elim
 | a :: _, h => exact okC_int h.1
theorem okR_src {r : List AC} (h : okR [Kd.sl Qbr] r) : Src (Qgc (nth .dead r 0)) := by
 match r, h with
 | [], h => exact h.elim
 | a :: _, h =>
  have h1 := h.1
  unfold okC at h1
  refine ⟨?_, fun c hc => okR_int (h1.2 c hc).1⟩
  have h2 := h1.1
  simp only [maxLen] at h2
  show (Qgc a).length <= _
  omega
end Go.Bm
