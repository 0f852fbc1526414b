/- The speed that is lost by the jerk, term by term. -/
import Derived.Test.YtbhinbhppddifaaPrLaws
namespace Go.Am
open Go.Proofs

def sk4 : Sk := ⟨mkT 79 0 [(1, false, 1), (2, false, 1), (3, false, 1), (4, false, 1), (9, false, 1), (10, false, 1)], [(4, 23, 3)], []⟩
def sko4 : Sk := ⟨mkT 79 0 [(1, false, 1), (2, false, 1), (3, false, 1), (4, false, 1), (9, false, 1)], [(4, 23, 3)], []⟩
def S4 (b v a s q j k r : Int) : St := buildSk sk4 [i64 b, i64 v, i64 a, .ptr 4 0, i64 s, i64 q, i64 j, i64 k, i64 r]
def O4 (b v a s j k r : Int) : St := buildSk sko4 [i64 b, i64 v, i64 a, .ptr 4 0, i64 s, i64 j, i64 k, i64 r]
def ok4 (s q k : Int) : Prop := 2 ≤ k ∧ k ≤ 65536 ∧ -65536 ≤ q ∧ q ≤ 65536 ∧ 0 ≤ s ∧ s + lossZ k (q + k) ≤ 4398046511104
noncomputable def G4 : List AC → List (Bool × Ex × St)
  | [.int .i64 b, .int .i64 v, .int .i64 a, .ptr 4 0, .int .i64 s, .int .i64 q, .int .i64 j, .int .i64 k, .int .i64 r] => [(dec (ok4 s q k), .exit 0, O4 b v a (s + lossZ k (q + k)) j k r)]
  | _ => []
noncomputable def Kl : Cfg := { spec := lookS T5, eqOk := [], ann := fun _ => ⟨some [1, 2, 3, 4, 9, 10], some [1, 2, 3, 4, 9], []⟩, lspec := fun b => bif Nat.beq b 0 then some (specSk sk4 G4) else none }
noncomputable def B4 : Code := loopAt (fnLoops Try.prog 4) 0
theorem loops4 : fnLoops Try.prog 4 = [(0, B4)] := by kernel_rfl
theorem round4 {R : Type} (K : Ex → St → Option R) (L0 L : Nat) (b v a s q j k r : Int) :
    loopN (fun s K => codeK Try.prog Kl L0 B4 0 s K) (Kl.ann 0).keep (Kl.ann 0).out [4] [] (L + 1) (S4 b v a s q j k r) K =
    bif decide (q > 0) then
      loopN (fun s K => codeK Try.prog Kl L0 B4 0 s K) (Kl.ann 0).keep (Kl.ann 0).out [4] [] L (S4 b v a (IntKind.i64.wrap (s + q)) (IntKind.i64.wrap (q - k)) j k r) K
    else K (.exit 0) (O4 b v a s j k r) := by kernel_rfl
theorem loop4 {R : Type} (K : Ex → St → Option R) (L0 : Nat) (b v a j k r : Int) : ∀ (n : Nat) (s q : Int), ok4 s q k → q ≤ n →
    loopN (fun s K => codeK Try.prog Kl L0 B4 0 s K) (Kl.ann 0).keep (Kl.ann 0).out [4] [] (n + 1) (S4 b v a s q j k r) K = K (.exit 0) (O4 b v a (s + lossZ k (q + k)) j k r)
  | 0, s, q, h, hq => by
    rw [round4, decide_eq_false (by omega), loss_small (by omega), Int.add_zero]; rfl
  | n + 1, s, q, h, hq => by
    obtain ⟨h1, h2, h3, h4, h5, h6⟩ := h
    rw [round4]
    by_cases hp : q > 0
    · have hs := loss_step (k := k) (b := q + k) (by omega) (by omega)
      have e : q + k - k = q := by omega
      have hn := loss_pos (k := k) (b := q) (by omega)
      rw [e] at hs
      rw [decide_eq_true hp, wrap_id (x := s + q) (by omega), wrap_id (x := q - k) (by omega)]
      have e2 : q - k + k = q := by omega
      have ih := loop4 K L0 b v a j k r n (s + q) (q - k) ⟨h1, h2, by omega, by omega, by omega, by rw [e2]; omega⟩ (by omega)
      rw [e2] at ih
      rw [cond_true, ih, hs, Int.add_assoc]
    · rw [decide_eq_false hp, loss_small (by omega), Int.add_zero]; rfl
theorem loopOK4 : LoopOK Try.prog Kl 0 B4 := by
  refine loopOK_of (sk := sk4) (G := G4) rfl ?_
  intro R l K v h
  unfold G4 at h
  split at h
  · rename_i b v a s q j k r
    simp only [pickK] at h
    cases hd : dec (ok4 s q k) <;> rw [hd] at h
    · simp at h
    · simp only [cond_true] at h
      refine ⟨65536 + 1, ?_⟩
      rw [← h]
      have ho := of_dec hd
      exact loop4 K 65537 b v a j k r 65536 s q ho (by obtain ⟨_, _, _, h4, _⟩ := ho; omega)
  · simp [pickK] at h
theorem soundl {args : List TV} {v : TV} (h : funK Try.prog Kl 0 4 args = some v) : PCall Try.prog 4 args v :=
  funK_sound_loops (specOK_of rfl all5) (fun t ht => by cases ht) mixed (fun p hp => by rw [loops4] at hp; simp at hp; subst hp; exact loopOK4) h

def tailL (j k r b v a : Int) : Option TV :=
  bif decide (b > 0) then bif planM j k r then bif planM j k r then some (TV.v false [AC.bool (readyM j k v a == readyM j k v a)]) else none else none
  else
    bif decide (b < -1099511627776) then bif planM j k r then bif planM j k r then some (TV.v false [AC.bool (readyM j k v a == readyM j k v a)]) else none else none
    else
      bif lossG k b then
        bif lossZ k b == 0 then bif planM j k r then bif planM j k r then some (TV.v false [AC.bool (readyM j k v a == readyM j k v a)]) else none else none
        else some (TV.v false [AC.bool false])
      else none
theorem law_loss (j k r b v a : Int) (L : Nat) : funK Try.prog Kl L 4 [Pl j k r, .v false [i64 b], .v false [i64 v], .v false [i64 a]] = some (.v false [.bool true]) := by
  refine Eq.trans (b := bif !planM j k r then some (TV.v false [AC.bool true])
    else
      bif decide (b > 65536) then some (TV.v false [AC.bool true])
      else
        bif decide (a < -65536) then some (TV.v false [AC.bool true])
        else
          bif decide (a > 65536) then some (TV.v false [AC.bool true])
          else
            bif decide (v < -16777216) then some (TV.v false [AC.bool true])
            else
              bif decide (v > 33554432) then some (TV.v false [AC.bool true])
              else
                bif decide (b > 0) then
                  bif dec (ok4 0 (IntKind.i64.wrap (b - k)) k) then
                    bif lossG k b then
                      bif lossZ k b != 0 + lossZ k (IntKind.i64.wrap (b - k) + k) then some (TV.v false [AC.bool false])
                      else tailL j k r b v a
                    else none
                  else none
                else tailL j k r b v a) (by kernel_rfl) ?_
  cases hp : planM j k r
  · rfl
  by_cases h1 : b > 65536
  · rw [decide_eq_true h1]; rfl
  by_cases h2 : a < -65536
  · rw [decide_eq_false h1, decide_eq_true h2]; rfl
  by_cases h3 : a > 65536
  · rw [decide_eq_false h1, decide_eq_false h2, decide_eq_true h3]; rfl
  by_cases h4 : v < -16777216
  · rw [decide_eq_false h1, decide_eq_false h2, decide_eq_false h3, decide_eq_true h4]; rfl
  by_cases h5 : v > 33554432
  · rw [decide_eq_false h1, decide_eq_false h2, decide_eq_false h3, decide_eq_false h4, decide_eq_true h5]; rfl
  rw [decide_eq_false h1, decide_eq_false h2, decide_eq_false h3, decide_eq_false h4, decide_eq_false h5]
  have hpi := plan_iff.1 hp
  have hg : lossG k b = true := by rw [lossG_iff]; omega
  have ht : tailL j k r b v a = some (.v false [.bool true]) := by
    unfold tailL
    rw [hp, hg]
    by_cases hb : b > 0
    · rw [decide_eq_true hb]; simp
    · rw [decide_eq_false hb, loss_nonpos (by omega)]
      cases decide (b < -1099511627776) <;> simp
  rw [ht]
  by_cases hb : b > 0
  · have e : b - k + k = b := by omega
    have hbd := loss_bound (k := k) (b := b) (by omega) (by omega)
    rw [decide_eq_true hb, wrap_id (x := b - k) (by omega), e, dec_true ⟨by omega, by omega, by omega, by omega, by omega, by rw [e]; omega⟩, hg, Int.zero_add]
    simp
  · rw [decide_eq_false hb]; rfl
end Go.Am
