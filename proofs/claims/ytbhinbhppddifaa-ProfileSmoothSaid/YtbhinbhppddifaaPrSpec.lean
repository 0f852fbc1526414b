/- The functions of layer 32 that the laws reach, each evaluated once, and their models: plans, losses, readiness, braking. -/
import Derived.Test.YtbhinbhppddifaaAmLaw
import Derived.Test.YtbhinbhppddifaaProg
namespace Go.Am
open Go.Proofs

def i64 (n : Int) : AC := .int .i64 n
abbrev Pl (a b c : Int) : TV := .v true [i64 a, i64 b, i64 c]
def planM (j k r : Int) : Bool := decide (1 ≤ j) && decide (j ≤ 65536) && decide (2 ≤ k) && decide (k ≤ 65536) && decide (1 ≤ r) && decide (r ≤ 16777216)
def lossZ (k b : Int) : Int := if b ≤ 0 then 0 else (b - 1) / k * b - k * ((b - 1) / k * ((b - 1) / k + 1) / 2)
def lossG (k b : Int) : Bool := decide (2 ≤ k) && decide (k ≤ 65536) && decide (b ≤ 1048576)
def readyM (j k v a : Int) : Bool := decide (-j ≤ a) && decide (a ≤ j) && decide (lossZ k (-a) ≤ v) && decide (v ≤ 16777216 - lossZ k a) && !(v == 0 && decide (k < a))
def sTrue : List TV → Option (Bool × TV)
  | [] => some (true, .v false [.bool true])
  | _ => none
def sPlan : List TV → Option (Bool × TV)
  | [.v true [.int .i64 j, .int .i64 k, .int .i64 r]] => some (true, .v false [.bool (planM j k r)])
  | _ => none
def sLoss : List TV → Option (Bool × TV)
  | [.v true [.int .i64 _, .int .i64 k, .int .i64 _], .v false [.int .i64 b]] => some (lossG k b, .v false [i64 (lossZ k b)])
  | _ => none
def sReady : List TV → Option (Bool × TV)
  | [.v true [.int .i64 j, .int .i64 k, .int .i64 r], .v false [.int .i64 v], .v false [.int .i64 a]] => some (planM j k r, .v false [.bool (readyM j k v a)])
  | _ => none
def T1 : List (Nat × (List TV → Option (Bool × TV))) := [(12, sPlan), (13, sPlan), (14, sLoss), (24, sLoss)]
def T2 : List (Nat × (List TV → Option (Bool × TV))) := (15, sReady) :: (16, sReady) :: T1
def K0 : Cfg := { spec := fun _ => none, eqOk := [], ann := fun _ => ⟨none, none, []⟩ }
def K1 : Cfg := { spec := lookS T1, eqOk := [], ann := fun _ => ⟨none, none, []⟩ }

theorem mixed : Try.prog.follows .mixedOrders = true := by kernel_rfl
theorem ok0 : SpecOK Try.prog K0 := fun f g h => by cases h
theorem sound0 {f : FuncId} {args : List TV} {v : TV} (h : funK Try.prog K0 0 f args = some v) : PCall Try.prog f args v := funK_sound ok0 (fun t ht => by cases ht) mixed rfl h

theorem plan_iff {j k r : Int} : planM j k r = true ↔ (1 ≤ j ∧ j ≤ 65536 ∧ 2 ≤ k ∧ k ≤ 65536 ∧ 1 ≤ r ∧ r ≤ 16777216) := by
  simp [planM, and_assoc]

/-- the parts of the loss's formula are small -/
theorem loss_parts {k b : Int} (hk : 2 ≤ k ∧ k ≤ 65536) (hb : 0 < b ∧ b ≤ 1048576) :
    0 ≤ (b - 1) / k ∧ (b - 1) / k ≤ 524288 ∧ k * ((b - 1) / k) ≤ b - 1 ∧ 0 ≤ (b - 1) / k * b ∧ (b - 1) / k * b ≤ 549755813888 ∧ 0 ≤ (b - 1) / k * ((b - 1) / k + 1) ∧ (b - 1) / k * ((b - 1) / k + 1) ≤ 274878431232 := by
  have h0 : 0 ≤ (b - 1) / k := Int.ediv_nonneg (by omega) (by omega)
  have h1 : k * ((b - 1) / k) ≤ b - 1 := Int.mul_ediv_self_le (by omega)
  have h2 : 2 * ((b - 1) / k) ≤ k * ((b - 1) / k) := Int.mul_le_mul_of_nonneg_right hk.1 h0
  have h3 : (b - 1) / k ≤ 524288 := by omega
  have h4 : (b - 1) / k * b ≤ 524288 * 1048576 := Int.mul_le_mul h3 hb.2 (by omega) (by omega)
  have h5 : (b - 1) / k * ((b - 1) / k + 1) ≤ 524288 * 524289 := Int.mul_le_mul h3 (by omega) (by omega) (by omega)
  exact ⟨h0, h3, h1, Int.mul_nonneg h0 (by omega), by omega, Int.mul_nonneg h0 (by omega), by omega⟩

theorem k_plan (j k r : Int) (L : Nat) : funK Try.prog K0 L 12 [Pl j k r] = some (.v false [.bool (planM j k r)]) := by
  refine Eq.trans (b := bif decide (1 ≤ j) then
    bif decide (j ≤ 65536) then
      bif decide (2 ≤ k) then
        bif decide (k ≤ 65536) then
          bif decide (1 ≤ r) then some (TV.v false [AC.bool (decide (r ≤ 16777216))])
          else some (TV.v false [AC.bool false])
        else some (TV.v false [AC.bool false])
      else some (TV.v false [AC.bool false])
    else some (TV.v false [AC.bool false])
    else some (TV.v false [AC.bool false])) (by kernel_rfl) ?_
  unfold planM
  cases h1 : decide (1 ≤ j) <;> cases h2 : decide (j ≤ 65536) <;> cases h3 : decide (2 ≤ k) <;> cases h4 : decide (k ≤ 65536) <;> cases h5 : decide (1 ≤ r) <;> simp_all
theorem k_plan' (j k r : Int) (L : Nat) : funK Try.prog K0 L 13 [Pl j k r] = some (.v false [.bool (planM j k r)]) := by
  refine Eq.trans (b := bif decide (j ≥ 1) then
    bif decide (j ≤ 65536) then
      bif decide (k ≥ 2) then
        bif decide (k ≤ 65536) then
          bif decide (r ≥ 1) then some (TV.v false [AC.bool (decide (r ≤ 16777216))])
          else some (TV.v false [AC.bool false])
        else some (TV.v false [AC.bool false])
      else some (TV.v false [AC.bool false])
    else some (TV.v false [AC.bool false])
    else some (TV.v false [AC.bool false])) (by kernel_rfl) ?_
  unfold planM
  cases h1 : decide (1 ≤ j) <;> cases h2 : decide (j ≤ 65536) <;> cases h3 : decide (2 ≤ k) <;> cases h4 : decide (k ≤ 65536) <;> cases h5 : decide (1 ≤ r) <;> simp_all
theorem lossG_iff {k b : Int} : lossG k b = true ↔ (2 ≤ k ∧ k ≤ 65536 ∧ b ≤ 1048576) := by
  simp [lossG, and_assoc]
theorem k_loss (j k r b : Int) (L : Nat) (hg : lossG k b = true) : funK Try.prog K0 L 14 [Pl j k r, .v false [i64 b]] = some (.v false [i64 (lossZ k b)]) := by
  refine Eq.trans (b := bif decide (b ≤ 0) then some (TV.v false [AC.int IntKind.i64 0])
    else
      bif decide (k ≤ 0) then some (TV.v false [AC.int IntKind.i64 0])
      else
        bif decide (k = 0) then none
        else
          some
            (TV.v false
              [AC.int IntKind.i64
                  (IntKind.i64.wrap
                    (IntKind.i64.wrap (IntKind.i64.wrap ((IntKind.i64.wrap (b - 1)).tdiv k) * b) -
                      IntKind.i64.wrap
                        (k *
                          IntKind.i64.wrap
                            ((IntKind.i64.wrap
                                  (IntKind.i64.wrap ((IntKind.i64.wrap (b - 1)).tdiv k) *
                                    IntKind.i64.wrap (IntKind.i64.wrap ((IntKind.i64.wrap (b - 1)).tdiv k) + 1))).tdiv
                              2))))])) (by kernel_rfl) ?_
  rw [lossG_iff] at hg
  unfold lossZ i64
  by_cases hb : b ≤ 0
  · simp [hb]
  · have p := loss_parts (k := k) (b := b) ⟨hg.1, hg.2.1⟩ ⟨by omega, hg.2.2⟩
    have hk0 : ¬ k ≤ 0 := by omega
    have hk1 : ¬ k = 0 := by omega
    simp only [hb, hk0, hk1, decide_false, cond_false, if_false]
    rw [wrap_id (x := b - 1) (by omega), Int.tdiv_eq_ediv_of_nonneg (by omega)]
    generalize (b - 1) / k = m at p ⊢
    obtain ⟨p1, p2, p3, p4, p5, p6, p7⟩ := p
    rw [wrap_id (x := m) (by omega), wrap_id (x := m + 1) (by omega), wrap_id (x := m * b) (by omega), wrap_id (x := m * (m + 1)) (by omega), Int.tdiv_eq_ediv_of_nonneg p6, wrap_id (x := m * (m + 1) / 2) (by omega)]
    have q1 : 0 ≤ k * (m * (m + 1) / 2) := Int.mul_nonneg (by omega) (by omega)
    have q2 : k * (m * (m + 1) / 2) ≤ 65536 * 137439215616 := Int.mul_le_mul hg.2.1 (by omega) (by omega) (by omega)
    rw [wrap_id (x := k * (m * (m + 1) / 2)) (by omega), wrap_id (by omega)]
theorem even_mul (m : Int) : m * (m + 1) % 2 = 0 := by
  have hm : m % 2 = 0 ∨ m % 2 = 1 := by omega
  rcases hm with h | h
  · rw [Int.mul_emod, h]; simp
  · have : (m + 1) % 2 = 0 := by omega
    rw [Int.mul_emod, this]; simp
theorem k_loss' (j k r b : Int) (L : Nat) (hg : lossG k b = true) : funK Try.prog K0 L 24 [Pl j k r, .v false [i64 b]] = some (.v false [i64 (lossZ k b)]) := by
  refine Eq.trans (b := bif decide (b ≤ 0) then some (TV.v false [AC.int IntKind.i64 0])
    else
      bif decide (k = 0) then none
      else
        some
          (TV.v false
            [AC.int IntKind.i64
                (IntKind.i64.wrap
                  (IntKind.i64.wrap (IntKind.i64.wrap ((IntKind.i64.wrap (b - 1)).tdiv k) * b) -
                    IntKind.i64.wrap
                      ((IntKind.i64.wrap
                            (IntKind.i64.wrap (k * IntKind.i64.wrap ((IntKind.i64.wrap (b - 1)).tdiv k)) *
                              IntKind.i64.wrap (IntKind.i64.wrap ((IntKind.i64.wrap (b - 1)).tdiv k) + 1))).tdiv
                        2)))])) (by kernel_rfl) ?_
  rw [lossG_iff] at hg
  unfold lossZ i64
  by_cases hb : b ≤ 0
  · simp [hb]
  · have p := loss_parts (k := k) (b := b) ⟨hg.1, hg.2.1⟩ ⟨by omega, hg.2.2⟩
    have hk1 : ¬ k = 0 := by omega
    simp only [hb, hk1, decide_false, cond_false, if_false]
    rw [wrap_id (x := b - 1) (by omega), Int.tdiv_eq_ediv_of_nonneg (by omega)]
    generalize (b - 1) / k = m at p ⊢
    obtain ⟨p1, p2, p3, p4, p5, p6, p7⟩ := p
    have q0 : 0 ≤ k * m := Int.mul_nonneg (by omega) p1
    have q1 : k * m * (m + 1) ≤ 1048576 * 524289 := Int.mul_le_mul (by omega) (by omega) (by omega) (by omega)
    have q2 : 0 ≤ k * m * (m + 1) := Int.mul_nonneg q0 (by omega)
    rw [wrap_id (x := m) (by omega), wrap_id (x := m + 1) (by omega), wrap_id (x := m * b) (by omega), wrap_id (x := k * m) (by omega), wrap_id (x := k * m * (m + 1)) (by omega), Int.tdiv_eq_ediv_of_nonneg q2]
    have q3 : k * m * (m + 1) / 2 = k * (m * (m + 1) / 2) := by
      rw [Int.mul_assoc]
      have e := even_mul m
      have d : (2 : Int) ∣ m * (m + 1) := Int.dvd_of_emod_eq_zero e
      rw [Int.mul_ediv_assoc _ d]
    rw [wrap_id (x := k * m * (m + 1) / 2) (by omega), q3, wrap_id (by omega)]

theorem r_plan : RowOK Try.prog (12, sPlan) := RowOK.mk (by kernel_rfl) (fun args v h => by
  unfold sPlan at h; split at h
  · cases h; exact sound0 (k_plan ..)
  · cases h)
theorem r_plan' : RowOK Try.prog (13, sPlan) := RowOK.mk (by kernel_rfl) (fun args v h => by
  unfold sPlan at h; split at h
  · cases h; exact sound0 (k_plan' ..)
  · cases h)
theorem r_loss : RowOK Try.prog (14, sLoss) := RowOK.mk (by kernel_rfl) (fun args v h => by
  unfold sLoss at h; split at h
  · simp only [Option.some.injEq, Prod.mk.injEq] at h
    obtain ⟨h1, rfl⟩ := h
    exact sound0 (k_loss _ _ _ _ 0 h1)
  · cases h)
theorem r_loss' : RowOK Try.prog (24, sLoss) := RowOK.mk (by kernel_rfl) (fun args v h => by
  unfold sLoss at h; split at h
  · simp only [Option.some.injEq, Prod.mk.injEq] at h
    obtain ⟨h1, rfl⟩ := h
    exact sound0 (k_loss' _ _ _ _ 0 h1)
  · cases h)
theorem all1 : AllOK Try.prog T1 := ⟨r_plan, r_plan', r_loss, r_loss', trivial⟩
theorem sound1 {f : FuncId} {args : List TV} {v : TV} (h : funK Try.prog K1 0 f args = some v) : PCall Try.prog f args v := funK_sound (specOK_of rfl all1) (fun t ht => by cases ht) mixed rfl h

/-! ### the loss's laws -/
theorem loss_nonpos {k b : Int} (h : b ≤ 0) : lossZ k b = 0 := by simp [lossZ, h]
theorem loss_small {k b : Int} (h : b ≤ k) : lossZ k b = 0 := by
  unfold lossZ
  split
  · rfl
  · rw [Int.ediv_eq_zero_of_lt (by omega) (by omega)]; simp
theorem half_step (m : Int) : m * (m + 1) / 2 = (m - 1) * m / 2 + m := by
  have : m * (m + 1) = (m - 1) * m + m * 2 := by
    rw [Int.sub_mul, Int.mul_add, Int.mul_one, Int.one_mul]; omega
  rw [this, Int.add_mul_ediv_right _ _ (by omega)]
theorem loss_step {k b : Int} (hk : 0 < k) (h : k < b) : lossZ k b = (b - k) + lossZ k (b - k) := by
  have e1 : (b - 1) / k = (b - k - 1) / k + 1 := by
    have : b - 1 = (b - k - 1) + k * 1 := by omega
    rw [this, Int.add_mul_ediv_left _ _ (by omega)]
  unfold lossZ
  rw [if_neg (by omega), if_neg (by omega), e1]
  generalize (b - k - 1) / k = m
  rw [half_step (m + 1)]
  have e2 : m + 1 - 1 = m := by omega
  rw [e2, Int.mul_add k, Int.add_mul m 1 b, Int.mul_sub m b k, Int.mul_add k m 1, Int.mul_comm k m]
  omega
theorem loss_nonneg {k : Int} (hk : 0 < k) : ∀ (n : Nat) (b : Int), b ≤ n → 0 ≤ lossZ k b
  | 0, b, h => by rw [loss_nonpos (by omega)]; omega
  | n + 1, b, h => by
    by_cases hb : b ≤ k
    · rw [loss_small hb]; omega
    · rw [loss_step hk (by omega)]
      have := loss_nonneg hk n (b - k) (by omega)
      omega
theorem loss_pos {k b : Int} (hk : 0 < k) : 0 ≤ lossZ k b := loss_nonneg hk b.toNat b (by omega)
theorem loss_succ {k : Int} (hk : 0 < k) : ∀ (n : Nat) (b : Int), b ≤ n → lossZ k b ≤ lossZ k (b + 1)
  | 0, b, h => by rw [loss_nonpos (by omega)]; exact loss_pos hk
  | n + 1, b, h => by
    by_cases hb : b ≤ k
    · rw [loss_small hb]; exact loss_pos hk
    · rw [loss_step hk (b := b) (by omega), loss_step hk (b := b + 1) (by omega)]
      have := loss_succ hk n (b - k) (by omega)
      have e : b + 1 - k = b - k + 1 := by omega
      rw [e]; omega
theorem loss_mono {k : Int} (hk : 0 < k) : ∀ (n : Nat) (b : Int), lossZ k b ≤ lossZ k (b + n)
  | 0, b => by simp
  | n + 1, b => by
    have h1 := loss_mono hk n b
    have h2 := loss_succ hk (b + n).toNat (b + n) (by omega)
    have e : b + ((n + 1 : Nat) : Int) = b + n + 1 := by omega
    rw [e]; omega
theorem loss_le {k b c : Int} (hk : 0 < k) (h : b ≤ c) : lossZ k b ≤ lossZ k c := by
  have := loss_mono hk (c - b).toNat b
  have e : b + ((c - b).toNat : Int) = c := by omega
  rwa [e] at this
theorem loss_bound {k b : Int} (hk : 2 ≤ k ∧ k ≤ 65536) (hb : b ≤ 1048576) : lossZ k b ≤ 549755813888 := by
  unfold lossZ
  split
  · omega
  · have p := loss_parts (k := k) (b := b) hk ⟨by omega, hb⟩
    generalize (b - 1) / k = m at p ⊢
    obtain ⟨p1, p2, p3, p4, p5, p6, p7⟩ := p
    have q1 : 0 ≤ k * (m * (m + 1) / 2) := Int.mul_nonneg (by omega) (by omega)
    omega

theorem k_ready (j k r v a : Int) (L : Nat) (hp : planM j k r = true) : funK Try.prog K1 L 15 [Pl j k r, .v false [i64 v], .v false [i64 a]] = some (.v false [.bool (readyM j k v a)]) := by
  refine Eq.trans (b := bif decide (a < IntKind.i64.wrap (0 - j)) then some (TV.v false [AC.bool false])
    else
      bif decide (a > j) then some (TV.v false [AC.bool false])
      else
        bif v == 0 then
          bif decide (a > k) then some (TV.v false [AC.bool false])
          else
            bif lossG k (IntKind.i64.wrap (0 - a)) then
              bif decide (v ≥ lossZ k (IntKind.i64.wrap (0 - a))) then
                bif lossG k a then some (TV.v false [AC.bool (decide (v ≤ IntKind.i64.wrap (16777216 - lossZ k a)))])
                else none
              else some (TV.v false [AC.bool false])
            else none
        else
          bif lossG k (IntKind.i64.wrap (0 - a)) then
            bif decide (v ≥ lossZ k (IntKind.i64.wrap (0 - a))) then
              bif lossG k a then some (TV.v false [AC.bool (decide (v ≤ IntKind.i64.wrap (16777216 - lossZ k a)))])
              else none
            else some (TV.v false [AC.bool false])
          else none) (by kernel_rfl) ?_
  rw [plan_iff] at hp
  unfold readyM
  rw [wrap_id (x := 0 - j) (by omega)]
  by_cases h1 : a < 0 - j
  · have e : decide (-j ≤ a) = false := by simp; omega
    have d : decide (a < 0 - j) = true := decide_eq_true h1
    rw [d, e]; simp only [cond_true, Bool.false_and]
  by_cases h2 : a > j
  · have e : decide (a ≤ j) = false := by simp; omega
    have d : decide (a < 0 - j) = false := decide_eq_false h1
    have d2 : decide (a > j) = true := decide_eq_true h2
    rw [d, d2, e]; simp only [cond_true, cond_false, Bool.and_false, Bool.false_and]
  have g1 : lossG k (0 - a) = true := by rw [lossG_iff]; omega
  have g2 : lossG k a = true := by rw [lossG_iff]; omega
  have b1 := loss_bound (k := k) (b := a) (by omega) (by omega)
  have b2 := loss_pos (k := k) (b := a) (by omega)
  have e1 : decide (-j ≤ a) = true := by simp; omega
  have e2 : decide (a ≤ j) = true := by simp; omega
  have e3 : -a = 0 - a := by omega
  have d1 : decide (a < 0 - j) = false := decide_eq_false h1
  have d2 : decide (a > j) = false := decide_eq_false h2
  rw [wrap_id (x := 0 - a) (by omega), wrap_id (x := 16777216 - lossZ k a) (by omega), g1, g2, e1, e2, e3, d1, d2]
  show (bif false then _ else bif false then _ else bif v == 0 then bif decide (k < a) then _ else bif true then bif decide (lossZ k (0 - a) ≤ v) then _ else _ else _ else bif true then bif decide (lossZ k (0 - a) ≤ v) then _ else _ else _) = _
  generalize (v == 0) = A
  generalize decide (k < a) = B
  generalize decide (lossZ k (0 - a) ≤ v) = C
  generalize decide (v ≤ 16777216 - lossZ k a) = D
  cases A <;> cases B <;> cases C <;> cases D <;> rfl
theorem k_ready' (j k r v a : Int) (L : Nat) (hp : planM j k r = true) : funK Try.prog K1 L 16 [Pl j k r, .v false [i64 v], .v false [i64 a]] = some (.v false [.bool (readyM j k v a)]) := by
  refine Eq.trans (b := bif decide (a ≥ IntKind.i64.wrap (0 - j)) then
      bif decide (a ≤ j) then
        bif lossG k (IntKind.i64.wrap (0 - a)) then
          bif decide (v ≥ lossZ k (IntKind.i64.wrap (0 - a))) then
            bif lossG k a then
              bif decide (v ≤ IntKind.i64.wrap (16777216 - lossZ k a)) then
                bif v != 0 then some (TV.v false [AC.bool true]) else some (TV.v false [AC.bool (decide (a ≤ k))])
              else some (TV.v false [AC.bool false])
            else none
          else some (TV.v false [AC.bool false])
        else none
      else some (TV.v false [AC.bool false])
    else some (TV.v false [AC.bool false])) (by kernel_rfl) ?_
  rw [plan_iff] at hp
  unfold readyM
  rw [wrap_id (x := 0 - j) (by omega)]
  by_cases h1 : a ≥ 0 - j
  · have d1 : decide (a ≥ 0 - j) = true := decide_eq_true h1
    have e1 : decide (-j ≤ a) = true := by simp; omega
    by_cases h2 : a ≤ j
    · have g1 : lossG k (0 - a) = true := by rw [lossG_iff]; omega
      have g2 : lossG k a = true := by rw [lossG_iff]; omega
      have b1 := loss_bound (k := k) (b := a) (by omega) (by omega)
      have b2 := loss_pos (k := k) (b := a) (by omega)
      have e2 : decide (a ≤ j) = true := decide_eq_true h2
      have e3 : -a = 0 - a := by omega
      have e5 : decide (k < a) = !decide (a ≤ k) := by
        by_cases h : a ≤ k
        · rw [decide_eq_true h]; simp; omega
        · rw [decide_eq_false h]; simp; omega
      rw [wrap_id (x := 0 - a) (by omega), wrap_id (x := 16777216 - lossZ k a) (by omega), g1, g2, d1, e1, e2, e3, e5]
      show (bif true then bif true then bif true then bif decide (lossZ k (0 - a) ≤ v) then bif true then bif decide (v ≤ 16777216 - lossZ k a) then bif !(v == 0) then _ else _ else _ else _ else _ else _ else _ else _) = _
      generalize (v == 0) = A
      generalize decide (a ≤ k) = B
      generalize decide (lossZ k (0 - a) ≤ v) = C
      generalize decide (v ≤ 16777216 - lossZ k a) = D
      cases A <;> cases B <;> cases C <;> cases D <;> rfl
    · have e : decide (a ≤ j) = false := decide_eq_false h2
      rw [d1, e1, e]; simp only [cond_true, cond_false, Bool.and_false, Bool.false_and]
  · have e : decide (-j ≤ a) = false := by simp; omega
    have d1 : decide (a ≥ 0 - j) = false := decide_eq_false h1
    rw [d1, e]; simp only [cond_false, Bool.false_and]
theorem r_ready : RowOK Try.prog (15, sReady) := RowOK.mk (by kernel_rfl) (fun args v h => by
  unfold sReady at h; split at h
  · simp only [Option.some.injEq, Prod.mk.injEq] at h
    obtain ⟨h1, rfl⟩ := h
    exact sound1 (k_ready _ _ _ _ _ 0 h1)
  · cases h)
theorem r_ready' : RowOK Try.prog (16, sReady) := RowOK.mk (by kernel_rfl) (fun args v h => by
  unfold sReady at h; split at h
  · simp only [Option.some.injEq, Prod.mk.injEq] at h
    obtain ⟨h1, rfl⟩ := h
    exact sound1 (k_ready' _ _ _ _ _ 0 h1)
  · cases h)
theorem all2 : AllOK Try.prog T2 := ⟨r_ready, r_ready', all1⟩
end Go.Am
