/- a row of wide.Sqrt that the kernel runs fast -/
import Derived.Test.YtdllaekpkcanbaaPrD
set_option linter.unusedVariables false
set_option linter.unusedSimpArgs false
set_option maxRecDepth 100000
namespace Go.Bm
theorem row_mono {P : Program} {f : FuncId} {sig osig : Sk} {m m' : List AC -> Option (List AC)} (h : RowOK P (f, spOf sig osig m)) (hm : ∀ vars o, m' vars = some o -> m vars = some o) : RowOK P (f, spOf sig osig m') := by
 refine ⟨spOf_nat, fun args mem v mem' hr => h.ok args mem v mem' ?_⟩
 obtain ⟨boxes, rows⟩ := mem
 simp only [spOf] at hr ⊢
 obtain ⟨h1, hr⟩ := cond_none hr
 rw [h1]
 simp only [cond_true]
 split at hr
 ·rename_i vars hv
  simp only [Option.bind_eq_some_iff] at hr
  obtain ⟨o, ho, hr⟩ := hr
  rw [hm vars o ho]
  exact hr
 ·simp at hr
def isqL : Nat -> Nat -> Nat -> (Nat -> Option (List AC)) -> Option (List AC)
 | 0, r, _, K => K r
 | k + 1, r, n, K => forceN (r + 2 ^ k) fun c => bif Nat.ble (c * c) n then isqL k c n K else isqL k r n K
def natSqrt : List AC -> Option (List AC)
 | [.int .i64 (.ofNat n), .int .i64 (.ofNat 1)] => isqL 32 0 n fun r => bif Nat.ble n 4611686018427387904 && Nat.ble (r * r) n && Nat.blt n ((r + 1) * (r + 1)) then some [.int .i64 (Int.ofNat (bif Nat.blt (r * r) n then r + 1 else r)), .bool true] else none
 | _ => none
theorem isqL_some : ∀ (k r n : Nat) (K : Nat -> Option (List AC)) (o : List AC), isqL k r n K = some o -> ∃ c, K c = some o
 | 0, r, n, K, o, h => ⟨r, h⟩
 | k + 1, r, n, K, o, h => by
  simp only [isqL, forceN_eq] at h
  cases hb : Nat.ble ((r + 2 ^ k) * (r + 2 ^ k)) n <;> rw [hb] at h
  ·exact isqL_some k _ n K o h
  ·exact isqL_some k _ n K o h
theorem sq_unique {a b n : Nat} (h1 : a * a <= n) (h2 : n < (a + 1) * (a + 1)) (h3 : b * b <= n) (h4 : n < (b + 1) * (b + 1)) : a = b := by
 rcases Nat.lt_trichotomy a b with h | h | h
 ·have := Nat.mul_le_mul (show a + 1 <= b from h) (show a + 1 <= b from h); omega
 ·exact h
 ·have := Nat.mul_le_mul (show b + 1 <= a from h) (show b + 1 <= a from h); omega
theorem natSqrt_ok (vars o : List AC) (h : natSqrt vars = some o) : m_wide_Sqrt vars = some o := by
 unfold natSqrt at h
 split at h
 ·rename_i n
  obtain ⟨c, hc⟩ := isqL_some _ _ _ _ _ h
  obtain ⟨h1, h2⟩ := cond_none hc
  simp only [Bool.and_eq_true] at h1
  obtain ⟨⟨g1, g2⟩, g3⟩ := h1
  have g1 := Nat.le_of_ble_eq_true g1
  have g2 := Nat.le_of_ble_eq_true g2
  have g3 : n < (c + 1) * (c + 1) := Nat.le_of_ble_eq_true g3
  obtain ⟨r, k1, k2, k3⟩ := s_wide_Sqrt (n := n) (mode := 1) (by omega) (.inl rfl)
  have : r = c := sq_unique k2 k3 g2 g3
  subst this
  have e : (bif Nat.blt (r * r) n then r + 1 else r) = if (1 : Int) = 1 /\ r * r < n \/ (1 : Int) = 2 /\ r * r + r < n then r + 1 else r := by
   by_cases h : r * r < n
   ·rw [if_pos (.inl ⟨rfl, h⟩), show Nat.blt (r * r) n = true from Nat.ble_eq_true_of_le h]; rfl
   ·rw [if_neg (by simp; omega)]
    cases hb : Nat.blt (r * r) n
    ·rfl
    ·exact absurd (Nat.le_of_ble_eq_true hb) h
  rw [e] at h2
  exact k1.trans h2
 ·simp at h
end Go.Bm
