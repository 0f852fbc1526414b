/- what the makers of items give: numbers of a source, turned vectors -/
import Derived.Test.YtdllaekpkcanbaaPrLine
import Derived.Test.YtdllaekpkcanbaaMx1
set_option linter.unusedVariables false
set_option linter.unusedSimpArgs false
set_option maxRecDepth 100000
namespace Go.Bm

/-- a source's numbers -/
def Src (l : List (List AC)) : Prop := l.length ≤ 9223372036854775807 ∧ ∀ c ∈ l, i64 (intOf (nth .dead c 0))
theorem nth_mem' {l : List (List AC)} {i : Nat} (h : i < l.length) : nth [] l i ∈ l := by rw [nth_get [] l i h]; exact List.getElem_mem h
theorem a_Next {M : List AC → Option (List AC)} (hM : ∀ v n : Int, i64 v → 0 < n ∧ n ≤ 4611686018427387904 → M [I v, I n] = some [I (v % n)]) {l : List (List AC)} (hl : Src l) {k : Nat} {n : Int} (hn : 0 < n ∧ n ≤ 4611686018427387904) :
    ∃ (v : Int) (k' : Nat), mf_cncmill_Source_Next M [I n, .view kInts l, I k] = some [I v, .view kInts l, I k'] ∧ 0 ≤ v ∧ v < n ∧ k ≤ k' ∧ (k < l.length → k' = k + 1) ∧ (l.length ≤ k → k' = k) := by
  have hl1 := hl.1
  rw [mf_cncmill_Source_Next_eq]
  by_cases h : k < l.length
  · have h1 := hM _ n (hl.2 _ (nth_mem' h)) hn
    simp only [go_sem, Int.toNat_natCast, h1]
    rw [if_neg (by omega), if_pos (by omega), wrap_id (by omega)]
    exact ⟨_, k + 1, rfl, Int.emod_nonneg _ (by omega), Int.emod_lt_of_pos _ hn.1, by omega, fun _ => rfl, by omega⟩
  · simp only [go_sem]
    rw [if_pos (by omega)]
    exact ⟨0, k, rfl, by omega, hn.1, by omega, by omega, fun _ => rfl⟩
theorem s_Next {l : List (List AC)} (hl : Src l) (k : Nat) {n : Int} (hn : 0 < n ∧ n ≤ 4611686018427387904) :
    ∃ (v : Int) (k' : Nat), m_cncmill_Source_Next [I n, .view kInts l, I k] = some [I v, .view kInts l, I k'] ∧ 0 ≤ v ∧ v < n ∧ k ≤ k' ∧ (k < l.length → k' = k + 1) ∧ (l.length ≤ k → k' = k) :=
  a_Next (fun _ _ hv hn => s_cncmill_Mod hv hn) hl hn
theorem s_Left (l : List (List AC)) (k : Nat) : m_cncmill_Source_Left [.view kInts l, I k] = some [B (decide (k < l.length)), .view kInts l, I k] := by
  unfold m_cncmill_Source_Left
  rw [mf_cncmill_Source_Left_eq]
  congr 3
  simp
theorem s_From (l : List (List AC)) : m_cncmill_From [.view kInts l] = some [.view kInts l, I 0] := by
  unfold m_cncmill_From
  rw [mf_cncmill_From_eq]

/-- the vector (r, 0), turned by k quarters -/
def rotU (r : Int) (k : Int) : Int := if k % 4 = 0 then r else if k % 4 = 2 then -r else 0
def rotW (r : Int) (k : Int) : Int := if k % 4 = 1 then r else if k % 4 = 3 then -r else 0
theorem s_turned {r k : Int} (hr : 0 ≤ r ∧ r ≤ 1000000) (hk : 0 ≤ k ∧ k ≤ 1000) : m_cncmill_turned [I r, I k] = some [I (rotU r k), I (rotW r k)] := by
  unfold m_cncmill_turned
  rw [mf_cncmill_turned_eq, wrap_id (by omega), Int.tmod_eq_emod_of_nonneg hk.1]
  have hc : k % 4 = 0 ∨ k % 4 = 1 ∨ k % 4 = 2 ∨ k % 4 = 3 := by omega
  unfold rotU rotW
  rcases hc with h | h | h | h <;> rw [h] <;> simp [nth, intOf]
end Go.Bm
