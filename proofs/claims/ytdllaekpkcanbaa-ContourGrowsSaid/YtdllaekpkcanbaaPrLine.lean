/- the law ContourLine, over the models -/
import Derived.Test.YtdllaekpkcanbaaPrE
import Derived.Test.YtdllaekpkcanbaaMy1
set_option linter.unusedVariables false
set_option linter.unusedSimpArgs false
set_option maxRecDepth 100000
namespace Go.Bm

theorem s_cncref23_small (p : Pt) (l : Int) (hl : 0 ≤ l ∧ l ≤ 1000000000) : ∃ r, m_cncref23_small [I p.x, I p.y, I p.z, I l] = some [B r] ∧ (r = true ↔ bd l.toNat p) := by
  unfold m_cncref23_small
  rw [mf_cncref23_small_eq]
  simp only [go_sem]
  rw [wrap_id (by omega)]
  unfold bd
  by_cases h1 : p.x < 0 - l
  · rw [if_pos h1]; exact ⟨_, rfl, by simp; omega⟩
  rw [if_neg h1]
  by_cases h2 : p.x > l
  · rw [if_pos h2]; exact ⟨_, rfl, by simp; omega⟩
  rw [if_neg h2]
  by_cases h3 : p.y < 0 - l
  · rw [if_pos h3]; exact ⟨_, rfl, by simp; omega⟩
  rw [if_neg h3]
  by_cases h4 : p.y > l
  · rw [if_pos h4]; exact ⟨_, rfl, by simp; omega⟩
  rw [if_neg h4]
  by_cases h5 : p.z < 0 - l
  · rw [if_pos h5]; exact ⟨_, rfl, by simp; omega⟩
  rw [if_neg h5]
  by_cases h6 : p.z > l
  · rw [if_pos h6]; exact ⟨_, rfl, by simp; omega⟩
  rw [if_neg h6]
  exact ⟨_, rfl, by simp; omega⟩
theorem a_cncref23_Small {M : List AC → Option (List AC)} {p : Pt} {r : Bool} (h : M [I p.x, I p.y, I p.z, I 33554432] = some [B r]) : mf_cncref23_Small M [I p.x, I p.y, I p.z] = some [B r] := by
  rw [mf_cncref23_Small_eq]
  simp only [go_sem, h]
theorem s_cncref23_Small (p : Pt) : ∃ r, m_cncref23_Small [I p.x, I p.y, I p.z] = some [B r] ∧ (r = true ↔ bd 33554432 p) := by
  obtain ⟨r, h1, h2⟩ := s_cncref23_small p 33554432 (by omega)
  exact ⟨r, a_cncref23_Small h1, h2⟩
theorem s_cnclaw41_distance (e : Int) : ∃ r, m_cnclaw41_distance [I e] = some [B r] ∧ (r = true ↔ 0 ≤ e ∧ e ≤ 32000) := by
  unfold m_cnclaw41_distance
  rw [mf_cnclaw41_distance_eq]
  simp only [go_sem]
  by_cases h : e ≥ 0
  · rw [if_pos h]; exact ⟨_, rfl, by simp; omega⟩
  · rw [if_neg h]; exact ⟨_, rfl, by simp; omega⟩
/-- the remainder, from 0 to n - 1 -/
theorem s_cncmill_Mod {v n : Int} (_ : i64 v) (hn : 0 < n ∧ n ≤ 4611686018427387904) : m_cncmill_Mod [I v, I n] = some [I (v % n)] := by
  unfold m_cncmill_Mod
  rw [mf_cncmill_Mod_eq, bif_neg (by omega), bif_neg (by omega)]
  have h1 : -n < v.tmod n ∧ v.tmod n < n := by
    have a1 := Int.tmod_lt_of_pos v hn.1
    have a2 := Int.lt_tmod_of_pos v hn.1
    omega
  rw [wrap_id (by omega)]
  have h2 : (v.tmod n + n).tmod n = v % n := by
    rw [Int.tmod_eq_emod_of_nonneg (by omega), Int.add_emod_right]
    have h3 := Int.tmod_add_mul_tdiv v n
    have h4 : v % n = (v.tmod n + n * v.tdiv n) % n := by rw [h3]
    rw [h4, Int.add_mul_emod_self_left]
  rw [h2]
theorem a_cnclaw41_beside {M : List AC → Option (List AC)} {p d : Pt} (h1 : M [I d.x, I 41] = some [I (d.x % 41)]) (h2 : M [I d.y, I 41] = some [I (d.y % 41)]) (h3 : M [I d.z, I 41] = some [I (d.z % 41)]) :
    ∃ q : Pt, mf_cnclaw41_beside M [I p.x, I p.y, I p.z, I d.x, I d.y, I d.z] = some (ptR q) := by
  rw [mf_cnclaw41_beside_eq]
  simp only [go_sem, h1, h2, h3]
  exact ⟨⟨_, _, _⟩, rfl⟩
theorem s_cnclaw41_beside {p d : Pt} (h1 : i64 d.x) (h2 : i64 d.y) (h3 : i64 d.z) : ∃ q : Pt, m_cnclaw41_beside [I p.x, I p.y, I p.z, I d.x, I d.y, I d.z] = some (ptR q) :=
  a_cnclaw41_beside (s_cncmill_Mod h1 (by omega)) (s_cncmill_Mod h2 (by omega)) (s_cncmill_Mod h3 (by omega))

theorem a_ContourLine {MR MO MB MD MS MA : List AC → Option (List AC)} {a b p : Pt} {e : Int} (hA : MA [] = some [B true]) (hS : ∀ p : Pt, ∃ r, MS [I p.x, I p.y, I p.z] = some [B r] ∧ (r = true ↔ bd 33554432 p))
    (hD : ∃ r, MD [I e] = some [B r] ∧ (r = true ↔ 0 ≤ e ∧ e ≤ 32000)) (hB : ∃ q : Pt, MB [I a.x, I a.y, I a.z, I p.x, I p.y, I p.z] = some (ptR q))
    (hO : ∀ (a b p : Pt) (e : Int), bd 33554432 a → bd 33554432 b → bd 33554432 p → e.natAbs ≤ 32000 → ∃ r, MO [I a.x, I a.y, I a.z, I b.x, I b.y, I b.z, I p.x, I p.y, I p.z, I e] = some [B r] ∧ (r = true ↔ onLine a b p e))
    (hR : ∀ (a b p : Pt) (e : Int), bd 33554432 a → bd 33554432 b → bd 33554432 p → e.natAbs ≤ 32000 → ∃ r, MR [I a.x, I a.y, I a.z, I b.x, I b.y, I b.z, I p.x, I p.y, I p.z, I e] = some [B r] ∧ (r = true ↔ onLine a b p e)) :
    mf_cnclaw41_ContourLine MR MO MB MD MS MA [I a.x, I a.y, I a.z, I b.x, I b.y, I b.z, I p.x, I p.y, I p.z, I e] = some [B true] := by
  obtain ⟨q, hq⟩ := hB
  obtain ⟨r1, a1, b1⟩ := hS a
  obtain ⟨r2, a2, b2⟩ := hS b
  obtain ⟨r3, a3, b3⟩ := hS p
  obtain ⟨r4, a4, b4⟩ := hD
  obtain ⟨r5, a5, b5⟩ := hS q
  rw [mf_cnclaw41_ContourLine_eq]
  simp only [go_sem, hA, a1, a2, a3, a4, hq, a5]
  rw [if_neg (by simp)]
  by_cases c1 : r1 = true
  case neg => rw [if_pos c1]
  rw [if_neg (by simp [c1])]
  by_cases c2 : r2 = true
  case neg => rw [if_pos c2]
  rw [if_neg (by simp [c2])]
  by_cases c3 : r3 = true
  case neg => rw [if_pos c3]
  rw [if_neg (by simp [c3])]
  by_cases c4 : r4 = true
  case neg => rw [if_pos c4]
  rw [if_neg (by simp [c4])]
  by_cases c5 : r5 = true
  case neg => rw [if_pos c5]
  rw [if_neg (by simp [c5])]
  have he := b4.1 c4
  have ht : (e.tmod 60).natAbs ≤ 32000 := by
    rw [Int.tmod_eq_emod_of_nonneg he.1]; omega
  obtain ⟨o1, e1, f1⟩ := hO a b p e (b1.1 c1) (b2.1 c2) (b3.1 c3) (by omega)
  obtain ⟨o2, e2, f2⟩ := hR a b p e (b1.1 c1) (b2.1 c2) (b3.1 c3) (by omega)
  obtain ⟨o3, e3, f3⟩ := hO a b q (e.tmod 60) (b1.1 c1) (b2.1 c2) (b5.1 c5) ht
  obtain ⟨o4, e4, f4⟩ := hR a b q (e.tmod 60) (b1.1 c1) (b2.1 c2) (b5.1 c5) ht
  obtain ⟨o5, e5, f5⟩ := hO b a p e (b2.1 c2) (b1.1 c1) (b3.1 c3) (by omega)
  have g1 : o1 = o2 := by rw [Bool.eq_iff_iff, f1, f2]
  have g2 : o3 = o4 := by rw [Bool.eq_iff_iff, f3, f4]
  have g3 : o5 = o1 := by rw [Bool.eq_iff_iff, f5, f1]; exact (onLine_rev a b p e).symm
  simp only [go_sem, e1, e2, e3, e4, e5, g1, g2, g3, BEq.rfl]
theorem s_ContourLine (a b p : Pt) (e : Int) (h1 : i64 p.x) (h2 : i64 p.y) (h3 : i64 p.z) : m_cnclaw41_ContourLine [I a.x, I a.y, I a.z, I b.x, I b.y, I b.z, I p.x, I p.y, I p.z, I e] = some [B true] :=
  a_ContourLine m_cnclaw41_awake_eq s_cncref23_Small (s_cnclaw41_distance e) (s_cnclaw41_beside h1 h2 h3) (fun _ _ _ _ ha hb hp he => s_contour_OnLine ha hb hp he) (fun _ _ _ _ ha hb hp he => s_cncref41_OnLine ha hb hp he)
end Go.Bm
