/- the law PathRate, over the models -/
import Derived.Test.YtdllaekpkcanbaaPrM
import Derived.Test.YtdllaekpkcanbaaMy1
set_option linter.unusedVariables false
set_option linter.unusedSimpArgs false
set_option maxRecDepth 100000
namespace Go.Bm

/-- the programmed speed of a motion -/
def rate (t : Itm) (speed : Int) : Int := if t.kind = 1 then 0 else mx (near (mn (if t.perRev = true then t.feed * mx speed 1 else t.feed) 60000000 * 4096) 60000) 1
theorem feed_bd {f s : Int} (hf : 0 ≤ f ∧ f ≤ 60000000) (hs : 0 ≤ s ∧ s ≤ 30000) : 0 ≤ f * mx s 1 ∧ f * mx s 1 ≤ 1800000000000 := by
  have h1 : 1 ≤ mx s 1 ∧ mx s 1 ≤ 30000 := by unfold mx; split <;> omega
  generalize mx s 1 = m at *
  have h2 := Int.mul_le_mul hf.2 h1.2 (by omega) (by omega)
  have h3 := Int.mul_nonneg hf.1 (show 0 ≤ m by omega)
  omega
theorem mn_bd {x : Int} (h : 0 ≤ x) : 0 ≤ mn x 60000000 ∧ mn x 60000000 ≤ 60000000 := by unfold mn; split <;> omega
theorem a_path_Rate {M : List AC → Option (List AC)} {t : Itm} {speed : Int} (hf : 0 ≤ t.feed ∧ t.feed ≤ 60000000) (hs : 0 ≤ speed ∧ speed ≤ 30000)
    (hM : ∀ a : Int, 0 ≤ a ∧ a ≤ 60000000 → M [I a, I 4096, I 60000, I 2] = some [I (near (a * 4096) 60000), B true]) : mf_path_Rate M (itmR t ++ [I speed]) = some [I (rate t speed)] := by
  have h1 := feed_bd hf hs
  have h2 := hM _ (mn_bd h1.1)
  have h3 := hM _ (mn_bd hf.1)
  have h4 : IntKind.i64.wrap (t.feed * mx speed 1) = t.feed * mx speed 1 := wrap_id (by omega)
  simp only [itmR, List.cons_append, List.nil_append]
  rw [mf_path_Rate_eq, h4]
  simp only [go_sem, h2, h3]
  unfold rate
  by_cases g1 : t.kind = 1
  · rw [if_pos g1, if_pos g1]
  · rw [if_neg g1, if_neg g1]
    by_cases g2 : t.perRev = true
    · rw [if_pos g2, if_pos g2]
    · rw [if_neg g2, if_neg g2]
theorem a_cncref25_Rate {M : List AC → Option (List AC)} {t : Itm} {speed : Int} (hf : 0 ≤ t.feed ∧ t.feed ≤ 60000000) (hs : 0 ≤ speed ∧ speed ≤ 30000)
    (hM : ∀ a : Int, 0 ≤ a ∧ a ≤ 60000000 → M [I (a * 4096), I 60000] = some [I (near (a * 4096) 60000)]) : mf_cncref25_Rate M (itmR t ++ [I speed]) = some [I (rate t speed)] := by
  have h1 := feed_bd hf hs
  have b2 := mn_bd h1.1
  have b3 := mn_bd hf.1
  have h2 := hM _ b2
  have h3 := hM _ b3
  have h4 : IntKind.i64.wrap (t.feed * mx speed 1) = t.feed * mx speed 1 := wrap_id (by omega)
  have hw : ∀ a : Int, 0 ≤ a ∧ a ≤ 60000000 → IntKind.i64.wrap (IntKind.i64.wrap (a * 16) * 256) = a * 4096 := by
    intro a ha
    rw [wrap_id (x := a * 16) (by omega), wrap_id (by omega)]
    omega
  simp only [itmR, List.cons_append, List.nil_append]
  rw [mf_cncref25_Rate_eq, h4, hw _ b2, hw _ b3]
  simp only [go_sem, h2, h3]
  unfold rate
  by_cases g1 : t.kind = 1
  · rw [if_pos g1, if_pos g1]
  · rw [if_neg g1, if_neg g1]
    by_cases g2 : t.perRev = true
    · rw [if_pos g2, if_pos g2]
    · rw [if_neg g2, if_neg g2]
theorem s_path_Rate {t : Itm} {speed : Int} (hf : 0 ≤ t.feed ∧ t.feed ≤ 60000000) (hs : 0 ≤ speed ∧ speed ≤ 30000) : m_path_Rate (itmR t ++ [I speed]) = some [I (rate t speed)] :=
  a_path_Rate hf hs fun a ha => s_wide_MulDiv (by unfold i64; omega) (by unfold i64; omega) (by omega) (by have : a.natAbs * (4096 : Int).natAbs ≤ 60000000 * 4096 := Nat.mul_le_mul (by omega) (by omega); omega)
theorem s_cncref25_Rate {t : Itm} {speed : Int} (hf : 0 ≤ t.feed ∧ t.feed ≤ 60000000) (hs : 0 ≤ speed ∧ speed ≤ 30000) : m_cncref25_Rate (itmR t ++ [I speed]) = some [I (rate t speed)] :=
  a_cncref25_Rate hf hs fun a ha => s_cncref24_Rounded (by omega) (by omega)
theorem a_PathRate {M1 M2 M3 : List AC → Option (List AC)} {t : Itm} {speed : Int} (hA : M3 [] = some [B true])
    (h1 : 0 ≤ t.feed ∧ t.feed ≤ 60000000 → 0 ≤ speed ∧ speed ≤ 30000 → M2 (itmR t ++ [I speed]) = some [I (rate t speed)]) (h2 : 0 ≤ t.feed ∧ t.feed ≤ 60000000 → 0 ≤ speed ∧ speed ≤ 30000 → M1 (itmR t ++ [I speed]) = some [I (rate t speed)]) :
    mf_cnclaw25_PathRate M1 M2 M3 (itmR t ++ [I speed]) = some [B true] := by
  simp only [itmR, List.cons_append, List.nil_append] at *
  rw [mf_cnclaw25_PathRate_eq]
  simp only [go_sem, hA]
  rw [if_neg (by simp)]
  by_cases g1 : t.feed < 0
  · rw [if_pos g1]
  rw [if_neg g1]
  by_cases g2 : t.feed > 60000000
  · rw [if_pos g2]
  rw [if_neg g2]
  by_cases g3 : speed < 0
  · rw [if_pos g3]
  rw [if_neg g3]
  by_cases g4 : speed > 30000
  · rw [if_pos g4]
  rw [if_neg g4, h1 (by omega) (by omega), h2 (by omega) (by omega)]
  simp only [go_sem, BEq.rfl]
theorem s_PathRate (t : Itm) (speed : Int) : m_cnclaw25_PathRate (itmR t ++ [I speed]) = some [B true] :=
  a_PathRate m_cnclaw25_awake_eq s_path_Rate s_cncref25_Rate
end Go.Bm
