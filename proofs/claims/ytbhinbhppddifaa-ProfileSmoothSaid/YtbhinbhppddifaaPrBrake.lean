/- Layer 32's two searches for the acceleration of the next cycle: the same search, step by step. -/
import Derived.Test.YtbhinbhppddifaaPrSpec
namespace Go.Am
open Go.Proofs

/-- the search -/
def bs (k v : Int) : Nat → Int → Int → Int
  | 0, low, _ => low
  | n + 1, low, high => if low < high then
      if lossZ k (high - (high - low) / 2) ≤ v - (high - (high - low) / 2) then bs k v n (high - (high - low) / 2) high else bs k v n low (high - (high - low) / 2 - 1)
    else low
def brakeZ (j k v a : Int) : Int := -(bs k v 20 (-a - k) (min (k - a) j))
def brakeG (j k r v a : Int) : Bool := planM j k r && decide (-65536 ≤ a) && decide (a ≤ 65536) && decide (-1099511627776 ≤ v) && decide (v ≤ 1099511627776)
def sBrake : List TV → Option (Bool × TV)
  | [.v true [.int .i64 j, .int .i64 k, .int .i64 r], .v false [.int .i64 v], .v false [.int .i64 a]] => some (brakeG j k r v a, .v false [i64 (brakeZ j k v a)])
  | _ => none
def T3 : List (Nat × (List TV → Option (Bool × TV))) := (17, sBrake) :: (18, sBrake) :: T2

def sk17 : Sk := ⟨mkT 58 0 [(1, false, 1), (3, false, 1), (7, false, 1), (8, false, 1)], [(3, 23, 3)], []⟩
def sko17 : Sk := ⟨mkT 58 0 [(7, false, 1)], [(3, 23, 3)], []⟩
def sk18 : Sk := ⟨mkT 45 0 [(1, false, 1), (3, false, 1), (7, false, 1), (8, false, 1)], [(3, 23, 3)], []⟩
def sko18 : Sk := ⟨mkT 45 0 [(7, false, 1)], [(3, 23, 3)], []⟩
def S17 (v low high j k r : Int) : St := buildSk sk17 [i64 v, .ptr 3 0, i64 low, i64 high, i64 j, i64 k, i64 r]
def O17 (low j k r : Int) : St := buildSk sko17 [i64 low, i64 j, i64 k, i64 r]
def S18 (v low high j k r : Int) : St := buildSk sk18 [i64 v, .ptr 3 0, i64 low, i64 high, i64 j, i64 k, i64 r]
def O18 (low j k r : Int) : St := buildSk sko18 [i64 low, i64 j, i64 k, i64 r]
def okB (v low high k : Int) : Prop := 2 ≤ k ∧ k ≤ 65536 ∧ -262144 ≤ low ∧ high ≤ 262144 ∧ -1099511627776 ≤ v ∧ v ≤ 1099511627776 ∧ low ≤ 262144 ∧ -262145 ≤ high
noncomputable def G17 : List AC → List (Bool × Ex × St)
  | [.int .i64 v, .ptr 3 0, .int .i64 low, .int .i64 high, .int .i64 j, .int .i64 k, .int .i64 r] => [(dec (okB v low high k), .exit 0, O17 (bs k v 20 low high) j k r)]
  | _ => []
noncomputable def G18 : List AC → List (Bool × Ex × St)
  | [.int .i64 v, .ptr 3 0, .int .i64 low, .int .i64 high, .int .i64 j, .int .i64 k, .int .i64 r] => [(dec (okB v low high k), .exit 0, O18 (bs k v 20 low high) j k r)]
  | _ => []
noncomputable def K17 : Cfg := { spec := lookS T1, eqOk := [], ann := fun _ => ⟨some [1, 3, 7, 8], some [7], []⟩, lspec := fun b => bif Nat.beq b 0 then some (specSk sk17 G17) else none }
noncomputable def K18 : Cfg := { spec := lookS T1, eqOk := [], ann := fun _ => ⟨some [1, 3, 7, 8], some [7], []⟩, lspec := fun b => bif Nat.beq b 0 then some (specSk sk18 G18) else none }
noncomputable def B17 : Code := loopAt (fnLoops Try.prog 17) 0
noncomputable def B18 : Code := loopAt (fnLoops Try.prog 18) 0
theorem loops17 : fnLoops Try.prog 17 = [(0, B17)] := by kernel_rfl
theorem loops18 : fnLoops Try.prog 18 = [(0, B18)] := by kernel_rfl

theorem round17 {R : Type} (K : Ex → St → Option R) (L0 L : Nat) (v low high j k r : Int) :
    loopN (fun s K => codeK Try.prog K17 L0 B17 0 s K) (K17.ann 0).keep (K17.ann 0).out [3] [] (L + 1) (S17 v low high j k r) K =
    bif decide (low < high) then
      bif lossG k (IntKind.i64.wrap (high - IntKind.i64.wrap ((IntKind.i64.wrap (high - low)).tdiv 2))) then
        bif decide (IntKind.i64.wrap (v - IntKind.i64.wrap (high - IntKind.i64.wrap ((IntKind.i64.wrap (high - low)).tdiv 2))) ≥ lossZ k (IntKind.i64.wrap (high - IntKind.i64.wrap ((IntKind.i64.wrap (high - low)).tdiv 2)))) then
          loopN (fun s K => codeK Try.prog K17 L0 B17 0 s K) (K17.ann 0).keep (K17.ann 0).out [3] [] L (S17 v (IntKind.i64.wrap (high - IntKind.i64.wrap ((IntKind.i64.wrap (high - low)).tdiv 2))) high j k r) K
        else
          loopN (fun s K => codeK Try.prog K17 L0 B17 0 s K) (K17.ann 0).keep (K17.ann 0).out [3] [] L (S17 v low (IntKind.i64.wrap (IntKind.i64.wrap (high - IntKind.i64.wrap ((IntKind.i64.wrap (high - low)).tdiv 2)) - 1)) j k r) K
      else none
    else K (.exit 0) (O17 low j k r) := by kernel_rfl
theorem round18 {R : Type} (K : Ex → St → Option R) (L0 L : Nat) (v low high j k r : Int) :
    loopN (fun s K => codeK Try.prog K18 L0 B18 0 s K) (K18.ann 0).keep (K18.ann 0).out [3] [] (L + 1) (S18 v low high j k r) K =
    bif decide (low < high) then
      bif lossG k (IntKind.i64.wrap (low + IntKind.i64.wrap ((IntKind.i64.wrap (IntKind.i64.wrap (high - low) + 1)).tdiv 2))) then
        bif decide (IntKind.i64.wrap (v - IntKind.i64.wrap (low + IntKind.i64.wrap ((IntKind.i64.wrap (IntKind.i64.wrap (high - low) + 1)).tdiv 2))) ≥ lossZ k (IntKind.i64.wrap (low + IntKind.i64.wrap ((IntKind.i64.wrap (IntKind.i64.wrap (high - low) + 1)).tdiv 2)))) then
          loopN (fun s K => codeK Try.prog K18 L0 B18 0 s K) (K18.ann 0).keep (K18.ann 0).out [3] [] L (S18 v (IntKind.i64.wrap (low + IntKind.i64.wrap ((IntKind.i64.wrap (IntKind.i64.wrap (high - low) + 1)).tdiv 2))) high j k r) K
        else
          loopN (fun s K => codeK Try.prog K18 L0 B18 0 s K) (K18.ann 0).keep (K18.ann 0).out [3] [] L (S18 v low (IntKind.i64.wrap (IntKind.i64.wrap (low + IntKind.i64.wrap ((IntKind.i64.wrap (IntKind.i64.wrap (high - low) + 1)).tdiv 2)) - 1)) j k r) K
      else none
    else K (.exit 0) (O18 low j k r) := by kernel_rfl

theorem loop17 {R : Type} (K : Ex → St → Option R) (L0 : Nat) (v j k r : Int) : ∀ (n : Nat) (low high : Int), okB v low high k → high - low < 2 ^ n →
    loopN (fun s K => codeK Try.prog K17 L0 B17 0 s K) (K17.ann 0).keep (K17.ann 0).out [3] [] (n + 1) (S17 v low high j k r) K = K (.exit 0) (O17 (bs k v n low high) j k r)
  | 0, low, high, h, hd => by
    rw [round17, decide_eq_false (by simp at hd; omega)]; rfl
  | n + 1, low, high, h, hd => by
    rw [round17]
    unfold bs
    by_cases hlt : low < high
    · obtain ⟨h1, h2, h3, h4, h5, h6, h7, h8⟩ := h
      rw [decide_eq_true hlt, if_pos hlt, wrap_id (x := high - low) (by omega), Int.tdiv_eq_ediv_of_nonneg (by omega), wrap_id (x := (high - low) / 2) (by omega), wrap_id (x := high - (high - low) / 2) (by omega),
        wrap_id (x := v - (high - (high - low) / 2)) (by omega), wrap_id (x := high - (high - low) / 2 - 1) (by omega)]
      have hg : lossG k (high - (high - low) / 2) = true := by rw [lossG_iff]; omega
      have hp : (2 : Int) ^ (n + 1) = 2 * 2 ^ n := by rw [Int.pow_succ]; omega
      rw [hg]
      by_cases hc : lossZ k (high - (high - low) / 2) ≤ v - (high - (high - low) / 2)
      · rw [decide_eq_true hc, if_pos hc]
        simp only [cond_true]
        exact loop17 K L0 v j k r n _ high ⟨h1, h2, by omega, h4, h5, h6, by omega, h8⟩ (by omega)
      · rw [decide_eq_false hc, if_neg hc]
        simp only [cond_true, cond_false]
        exact loop17 K L0 v j k r n low _ ⟨h1, h2, h3, by omega, h5, h6, h7, by omega⟩ (by omega)
    · rw [decide_eq_false hlt, if_neg hlt]; rfl
theorem loop18 {R : Type} (K : Ex → St → Option R) (L0 : Nat) (v j k r : Int) : ∀ (n : Nat) (low high : Int), okB v low high k → high - low < 2 ^ n →
    loopN (fun s K => codeK Try.prog K18 L0 B18 0 s K) (K18.ann 0).keep (K18.ann 0).out [3] [] (n + 1) (S18 v low high j k r) K = K (.exit 0) (O18 (bs k v n low high) j k r)
  | 0, low, high, h, hd => by
    rw [round18, decide_eq_false (by simp at hd; omega)]; rfl
  | n + 1, low, high, h, hd => by
    rw [round18]
    unfold bs
    by_cases hlt : low < high
    · obtain ⟨h1, h2, h3, h4, h5, h6, h7, h8⟩ := h
      have em : low + (high - low + 1) / 2 = high - (high - low) / 2 := by omega
      rw [decide_eq_true hlt, if_pos hlt, wrap_id (x := high - low) (by omega), wrap_id (x := high - low + 1) (by omega), Int.tdiv_eq_ediv_of_nonneg (by omega), wrap_id (x := (high - low + 1) / 2) (by omega), em, wrap_id (x := high - (high - low) / 2) (by omega),
        wrap_id (x := v - (high - (high - low) / 2)) (by omega), wrap_id (x := high - (high - low) / 2 - 1) (by omega)]
      have hg : lossG k (high - (high - low) / 2) = true := by rw [lossG_iff]; omega
      have hp : (2 : Int) ^ (n + 1) = 2 * 2 ^ n := by rw [Int.pow_succ]; omega
      rw [hg]
      by_cases hc : lossZ k (high - (high - low) / 2) ≤ v - (high - (high - low) / 2)
      · rw [decide_eq_true hc, if_pos hc]
        simp only [cond_true]
        exact loop18 K L0 v j k r n _ high ⟨h1, h2, by omega, h4, h5, h6, by omega, h8⟩ (by omega)
      · rw [decide_eq_false hc, if_neg hc]
        simp only [cond_true, cond_false]
        exact loop18 K L0 v j k r n low _ ⟨h1, h2, h3, by omega, h5, h6, h7, by omega⟩ (by omega)
    · rw [decide_eq_false hlt, if_neg hlt]; rfl

theorem loopOK17 : LoopOK Try.prog K17 0 B17 := by
  refine loopOK_of (sk := sk17) (G := G17) rfl ?_
  intro R l K v h
  unfold G17 at h
  split at h
  · rename_i v low high j k r
    simp only [pickK] at h
    cases hd : dec (okB v low high k) <;> rw [hd] at h
    · simp at h
    · simp only [cond_true] at h
      have ho := of_dec hd
      refine ⟨21, ?_⟩
      rw [← h]
      exact loop17 K 21 v j k r 20 low high ho (by obtain ⟨_, _, h3, h4, _⟩ := ho; simp; omega)
  · simp [pickK] at h
theorem loopOK18 : LoopOK Try.prog K18 0 B18 := by
  refine loopOK_of (sk := sk18) (G := G18) rfl ?_
  intro R l K v h
  unfold G18 at h
  split at h
  · rename_i v low high j k r
    simp only [pickK] at h
    cases hd : dec (okB v low high k) <;> rw [hd] at h
    · simp at h
    · simp only [cond_true] at h
      have ho := of_dec hd
      refine ⟨21, ?_⟩
      rw [← h]
      exact loop18 K 21 v j k r 20 low high ho (by obtain ⟨_, _, h3, h4, _⟩ := ho; simp; omega)
  · simp [pickK] at h
theorem sound17 {args : List TV} {v : TV} (h : funK Try.prog K17 0 17 args = some v) : PCall Try.prog 17 args v :=
  funK_sound_loops (specOK_of rfl all1) (fun t ht => by cases ht) mixed (fun p hp => by rw [loops17] at hp; simp at hp; subst hp; exact loopOK17) h
theorem sound18 {args : List TV} {v : TV} (h : funK Try.prog K18 0 18 args = some v) : PCall Try.prog 18 args v :=
  funK_sound_loops (specOK_of rfl all1) (fun t ht => by cases ht) mixed (fun p hp => by rw [loops18] at hp; simp at hp; subst hp; exact loopOK18) h

theorem bs_range (k v : Int) : ∀ (n : Nat) (low high : Int), low ≤ bs k v n low high ∧ bs k v n low high ≤ max low high
  | 0, low, high => by simp only [bs]; omega
  | n + 1, low, high => by
    unfold bs
    split
    · split
      · have := bs_range k v n (high - (high - low) / 2) high; omega
      · have := bs_range k v n low (high - (high - low) / 2 - 1); omega
    · omega
theorem bs_spec (k v : Int) : ∀ (n : Nat) (low high : Int), low ≤ high → high - low < 2 ^ n → lossZ k low ≤ v - low →
    lossZ k (bs k v n low high) ≤ v - bs k v n low high ∧ low ≤ bs k v n low high ∧ bs k v n low high ≤ high ∧ (bs k v n low high = high ∨ v - (bs k v n low high + 1) < lossZ k (bs k v n low high + 1))
  | 0, low, high, h1, h2, h3 => by
    simp only [bs]
    have : high - low < 1 := by simpa using h2
    exact ⟨h3, by omega, h1, .inl (by omega)⟩
  | n + 1, low, high, h1, h2, h3 => by
    have hp : (2 : Int) ^ (n + 1) = 2 * 2 ^ n := by rw [Int.pow_succ]; omega
    unfold bs
    by_cases hlt : low < high
    · rw [if_pos hlt]
      by_cases hc : lossZ k (high - (high - low) / 2) ≤ v - (high - (high - low) / 2)
      · rw [if_pos hc]
        obtain ⟨a, b, c, d⟩ := bs_spec k v n (high - (high - low) / 2) high (by omega) (by omega) hc
        exact ⟨a, by omega, c, d⟩
      · rw [if_neg hc]
        obtain ⟨a, b, c, d⟩ := bs_spec k v n low (high - (high - low) / 2 - 1) (by omega) (by omega) h3
        refine ⟨a, b, by omega, .inr ?_⟩
        rcases d with d | d
        · have e : bs k v n low (high - (high - low) / 2 - 1) + 1 = high - (high - low) / 2 := by omega
          rw [e]; omega
        · exact d
    · rw [if_neg hlt]
      exact ⟨h3, by omega, h1, .inl (by omega)⟩

theorem brakeG_iff {j k r v a : Int} : brakeG j k r v a = true ↔ (planM j k r = true ∧ -65536 ≤ a ∧ a ≤ 65536 ∧ -1099511627776 ≤ v ∧ v ≤ 1099511627776) := by
  simp [brakeG, and_assoc]
theorem mn_eq (x y : Int) : mn x y = min x y := by unfold mn; split <;> omega
theorem mx_eq (x y : Int) : mx x y = max x y := by unfold mx; split <;> omega
theorem k_brake (j k r v a : Int) (L : Nat) (hg : brakeG j k r v a = true) : funK Try.prog K17 L 17 [Pl j k r, .v false [i64 v], .v false [i64 a]] = some (.v false [i64 (brakeZ j k v a)]) := by
  refine Eq.trans (b := bif !planM j k r then some (.v false [i64 0]) else
    bif decide (mx a v > 1099511627776) then some (.v false [i64 0]) else
    bif decide (mn a v < -1099511627776) then some (.v false [i64 0]) else
    bif dec (okB v (IntKind.i64.wrap (IntKind.i64.wrap (0 - a) - k)) (mn (IntKind.i64.wrap (k - a)) j) k) then
      some (.v false [i64 (IntKind.i64.wrap (0 - bs k v 20 (IntKind.i64.wrap (IntKind.i64.wrap (0 - a) - k)) (mn (IntKind.i64.wrap (k - a)) j)))]) else none) (by kernel_rfl) ?_
  obtain ⟨hp, h1, h2, h3, h4⟩ := brakeG_iff.1 hg
  rw [hp, mx_eq, mn_eq, mn_eq, decide_eq_false (by omega), decide_eq_false (by omega)]
  rw [plan_iff] at hp
  rw [wrap_id (x := 0 - a) (by omega), wrap_id (x := 0 - a - k) (by omega), wrap_id (x := k - a) (by omega)]
  have hr := bs_range k v 20 (0 - a - k) (min (k - a) j)
  rw [dec_true ⟨by omega, by omega, by omega, by omega, by omega, by omega, by omega, by omega⟩, wrap_id (by omega)]
  unfold brakeZ
  have e1 : -a - k = 0 - a - k := by omega
  rw [e1]
  simp only [Bool.not_true, cond_false, cond_true, Int.zero_sub]
theorem k_brake' (j k r v a : Int) (L : Nat) (hg : brakeG j k r v a = true) : funK Try.prog K18 L 18 [Pl j k r, .v false [i64 v], .v false [i64 a]] = some (.v false [i64 (brakeZ j k v a)]) := by
  refine Eq.trans (b := bif dec (okB v (IntKind.i64.wrap (IntKind.i64.wrap (0 - a) - k)) (mn (IntKind.i64.wrap (IntKind.i64.wrap (0 - a) + k)) j) k) then
      some (.v false [i64 (IntKind.i64.wrap (0 - bs k v 20 (IntKind.i64.wrap (IntKind.i64.wrap (0 - a) - k)) (mn (IntKind.i64.wrap (IntKind.i64.wrap (0 - a) + k)) j)))]) else none) (by kernel_rfl) ?_
  obtain ⟨hp, h1, h2, h3, h4⟩ := brakeG_iff.1 hg
  rw [mn_eq]
  rw [plan_iff] at hp
  rw [wrap_id (x := 0 - a) (by omega), wrap_id (x := 0 - a - k) (by omega), wrap_id (x := 0 - a + k) (by omega)]
  have e2 : 0 - a + k = k - a := by omega
  rw [e2]
  have hr := bs_range k v 20 (0 - a - k) (min (k - a) j)
  rw [dec_true ⟨by omega, by omega, by omega, by omega, by omega, by omega, by omega, by omega⟩, wrap_id (by omega)]
  unfold brakeZ
  have e1 : -a - k = 0 - a - k := by omega
  rw [e1]
  simp only [cond_true, Int.zero_sub]
theorem r_brake : RowOK Try.prog (17, sBrake) := RowOK.mk (by kernel_rfl) (fun args v h => by
  unfold sBrake at h; split at h
  · simp only [Option.some.injEq, Prod.mk.injEq] at h
    obtain ⟨h1, rfl⟩ := h
    exact sound17 (k_brake _ _ _ _ _ 0 h1)
  · cases h)
theorem r_brake' : RowOK Try.prog (18, sBrake) := RowOK.mk (by kernel_rfl) (fun args v h => by
  unfold sBrake at h; split at h
  · simp only [Option.some.injEq, Prod.mk.injEq] at h
    obtain ⟨h1, rfl⟩ := h
    exact sound18 (k_brake' _ _ _ _ _ 0 h1)
  · cases h)
theorem all3 : AllOK Try.prog T3 := ⟨r_brake, r_brake', all2⟩
end Go.Am
