/- A stop keeps the limits of the plan to its end. -/
import Derived.Test.YtbhinbhppddifaaPrRest
namespace Go.Am
open Go.Proofs

def sk9 : Sk := ⟨mkT 84 0 [(1, false, 1), (2, false, 1), (3, false, 1), (32, false, 1), (33, false, 1), (34, false, 1)], [(3, 23, 3)], [(28, 3, 1), (31, 3, 1)]⟩
def sko9 : Sk := ⟨mkT 84 0 [], [(3, 23, 3)], [(28, 3, 1), (31, 3, 1)]⟩
def skr9 : Sk := ⟨mkT 84 0 [(6, false, 1)], [(3, 23, 3)], [(28, 3, 1), (31, 3, 1)]⟩
def S9 (v a : Int) (n : Nat) (m i j k r : Int) (f h : Nat → List AC) : St := buildSk sk9 [i64 v, i64 a, .ptr 3 0, .own 28 1 n, i64 m, i64 i, i64 j, i64 k, i64 r, .view n 1 f, .view 2 1 h]
def O9 (n : Nat) (j k r : Int) (f h : Nat → List AC) : St := buildSk sko9 [i64 j, i64 k, i64 r, .view n 1 f, .view 2 1 h]
def R9 (b : Bool) (n : Nat) (j k r : Int) (f h : Nat → List AC) : St := buildSk skr9 [.bool b, i64 j, i64 k, i64 r, .view n 1 f, .view 2 1 h]
/-- what is looked at in a round -/
def chk9 {R : Type} (j k v a x : Int) (bad go : Option R) : Option R :=
  bif decide (x < 0) then bad
  else bif decide (IntKind.i64.wrap (x - v) > j) then bad
  else bif decide (IntKind.i64.wrap (0 - IntKind.i64.wrap (x - v)) > j) then bad
  else bif decide (IntKind.i64.wrap (IntKind.i64.wrap (x - v) - a) > k) then bad
  else bif decide (IntKind.i64.wrap (a - IntKind.i64.wrap (x - v)) > k) then bad
  else go
def okC (j k : Int) (g : Nat → Int) : Nat → Nat → Int → Int → Prop
  | 0, _, _, _ => True
  | d + 1, i, v, a => ¬(v = 0 ∧ i = 0) ∧ 0 ≤ g i ∧ g i ≤ 1073741824 ∧ 0 ≤ v ∧ v ≤ 1073741824 ∧ -1073741824 ≤ a ∧ a ≤ 1073741824 ∧ g i - v ≤ j ∧ v - g i ≤ j ∧ g i - v - a ≤ k ∧ a - (g i - v) ≤ k ∧ okC j k g d (i + 1) (g i) (g i - v)
noncomputable def G9 : List AC → List (Bool × Ex × St)
  | [.int .i64 v, .int .i64 a, .ptr 3 0, .own 28 1 n', .int .i64 m, .int .i64 i, .int .i64 j, .int .i64 k, .int .i64 r, .view n 1 f, .view 2 1 h] =>
    [(dec (n' = n ∧ m = n ∧ i = 0 ∧ n ≤ 1073741824 ∧ ∃ g, f = ivals g ∧ okC j k g n 0 v a), .exit 0, O9 n j k r f h),
     (dec (n' = n ∧ m = n ∧ i = 0 ∧ v = 0 ∧ 0 < n ∧ ∃ g, f = ivals g ∧ g 0 = 0), .ret, R9 true n j k r f h)]
  | _ => []
noncomputable def K9 : Cfg := { spec := lookS T5, eqOk := [], ann := fun _ => ⟨some [1, 2, 3, 32, 33, 34], some [6], []⟩, ints := [28], lspec := fun b => bif Nat.beq b 0 then some (specSk sk9 G9) else none }
noncomputable def B9 : Code := loopAt (fnLoops Try.prog 9) 0
theorem loops9 : fnLoops Try.prog 9 = [(0, B9)] := by kernel_rfl
theorem round9 {R : Type} (K : Ex → St → Option R) (L0 L n i : Nat) (v a m j k r : Int) (g : Nat → Int) (h : Nat → List AC) :
    loopN (fun s K => codeK Try.prog K9 L0 B9 0 s K) (K9.ann 0).keep (K9.ann 0).out [3] [28, 31] (L + 1) (S9 v a n m i j k r (ivals g) h) K =
    bif decide ((i : Int) < m) then
      bif decide (0 ≤ (i : Int)) && decide ((i : Int) < (n : Int)) then
        bif v == 0 then
          bif (i : Int) == 0 then K .ret (R9 (g i == 0) n j k r (ivals g) h)
          else chk9 j k v a (g i) (K .ret (R9 false n j k r (ivals g) h))
            (loopN (fun s K => codeK Try.prog K9 L0 B9 0 s K) (K9.ann 0).keep (K9.ann 0).out [3] [28, 31] L (S9 (g i) (IntKind.i64.wrap (g i - v)) n m (IntKind.i64.wrap (i + 1)) j k r (ivals g) h) K)
        else chk9 j k v a (g i) (K .ret (R9 false n j k r (ivals g) h))
            (loopN (fun s K => codeK Try.prog K9 L0 B9 0 s K) (K9.ann 0).keep (K9.ann 0).out [3] [28, 31] L (S9 (g i) (IntKind.i64.wrap (g i - v)) n m (IntKind.i64.wrap (i + 1)) j k r (ivals g) h) K)
      else none
    else K (.exit 0) (O9 n j k r (ivals g) h) := by kernel_rfl

theorem loop9 {R : Type} (K : Ex → St → Option R) (L0 n : Nat) (hn : n ≤ 1073741824) (j k r : Int) (g : Nat → Int) (h : Nat → List AC) : ∀ (d i : Nat) (v a : Int), i + d = n → okC j k g d i v a →
    loopN (fun s K => codeK Try.prog K9 L0 B9 0 s K) (K9.ann 0).keep (K9.ann 0).out [3] [28, 31] (d + 1) (S9 v a n n i j k r (ivals g) h) K = K (.exit 0) (O9 n j k r (ivals g) h)
  | 0, i, v, a, hi, _ => by
    rw [round9, decide_eq_false (by omega)]; rfl
  | d + 1, i, v, a, hi, hok => by
    obtain ⟨h0, h1, h1', h2, h3, h4, h5, h6, h7, h8, h9, h10⟩ := hok
    have c3 : IntKind.i64.wrap ((i : Int) + 1) = ((i + 1 : Nat) : Int) := by
      rw [wrap_id (by omega)]; simp
    have hc : ∀ (bad go : Option R), chk9 j k v a (g i) bad go = go := by
      intro bad go
      unfold chk9
      rw [wrap_id (x := g i - v) (by omega), wrap_id (x := 0 - (g i - v)) (by omega), wrap_id (x := g i - v - a) (by omega), wrap_id (x := a - (g i - v)) (by omega),
        decide_eq_false (show ¬ g i < 0 by omega), decide_eq_false (show ¬ g i - v > j by omega), decide_eq_false (show ¬ 0 - (g i - v) > j by omega), decide_eq_false (show ¬ g i - v - a > k by omega), decide_eq_false (show ¬ a - (g i - v) > k by omega)]
      rfl
    rw [round9, decide_eq_true (show (i : Int) < (n : Int) by omega), decide_eq_true (show 0 ≤ (i : Int) by omega), c3, hc, wrap_id (x := g i - v) (by omega), loop9 K L0 n hn j k r g h d (i + 1) (g i) (g i - v) (by omega) h10]
    simp only [Bool.and_self, cond_true]
    by_cases hv : v = 0
    · have e : ((i : Int) == 0) = false := by rw [beq_eq_false_iff_ne]; intro hh; exact h0 ⟨hv, by omega⟩
      rw [e]; cases v == 0 <;> rfl
    · have e : (v == 0) = false := by rw [beq_eq_false_iff_ne]; exact hv
      rw [e]; rfl

theorem loopOK9 : LoopOK Try.prog K9 0 B9 := by
  refine loopOK_of (sk := sk9) (G := G9) rfl ?_
  intro R l K w hw
  unfold G9 at hw
  split at hw
  · rename_i v a n' m i j k r n f h
    simp only [pickK] at hw
    cases hd : dec (n' = n ∧ m = n ∧ i = 0 ∧ n ≤ 1073741824 ∧ ∃ g, f = ivals g ∧ okC j k g n 0 v a) <;> rw [hd] at hw
    · simp only [cond_false] at hw
      cases hd2 : dec (n' = n ∧ m = n ∧ i = 0 ∧ v = 0 ∧ 0 < n ∧ ∃ g, f = ivals g ∧ g 0 = 0) <;> rw [hd2] at hw
      · simp at hw
      · obtain ⟨rfl, rfl, rfl, rfl, hn, g, rfl, hg⟩ := of_dec hd2
        refine ⟨1, ?_⟩
        rw [← hw]
        have := round9 K 1 0 n' 0 0 a n' j k r g h
        refine this.trans ?_
        rw [decide_eq_true (show ((0 : Nat) : Int) < (n' : Int) by omega), hg]
        rfl
    · simp only [cond_true] at hw
      obtain ⟨rfl, rfl, rfl, hn, g, rfl, hok⟩ := of_dec hd
      refine ⟨n' + 1, ?_⟩
      rw [← hw]
      exact loop9 K (n' + 1) n' hn j k r g h n' 0 v a (by omega) hok
  · simp [pickK] at hw
theorem sound9 {args : List TV} {v : TV} (h : funK Try.prog K9 0 9 args = some v) : PCall Try.prog 9 args v :=
  funK_sound_loops (specOK_of rfl all5) (fun t ht => by cases ht) mixed (fun p hp => by rw [loops9] at hp; simp at hp; subst hp; exact loopOK9) h
end Go.Am
