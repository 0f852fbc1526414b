/- Layer 32's stops: both programs make the same list of speeds. -/
import Derived.Test.YtbhinbhppddifaaPrMath
namespace Go.Am
open Go.Proofs

/-! ### lists that a loop appends to -/
def app1 (f : Nat → List AC) (n : Nat) (x : Int) : Nat → List AC := fun i => bif Nat.blt i n then f i else litRow 1 [i64 x] (i - n)
def appL (f : Nat → List AC) (n : Nat) : List Int → (Nat → List AC)
  | [] => f
  | x :: l => appL (app1 f n x) (n + 1) l
def listV (l : List Int) : AC := .view l.length 1 fun i => [i64 (nth 0 l i)]
theorem lit_zero (x : Int) : litRow 1 [i64 x] 0 = [i64 x] := rfl
theorem appL_get : ∀ (l : List Int) (f : Nat → List AC) (n i : Nat), i < n + l.length → appL f n l i = if i < n then f i else [i64 (nth 0 l (i - n))]
  | [], f, n, i, h => by
    simp at h
    simp [appL, h]
  | x :: l, f, n, i, h => by
    rw [appL, appL_get l (app1 f n x) (n + 1) i (by simp at h; omega)]
    by_cases h1 : i < n
    · have : Nat.blt i n = true := by simp [Nat.blt]; omega
      rw [if_pos (by omega), if_pos h1]
      simp [app1, this]
    · rw [if_neg h1]
      by_cases h2 : i = n
      · subst h2
        have : Nat.blt i i = false := Bool.eq_false_iff.2 fun hh => by
          have := Nat.le_of_ble_eq_true hh
          omega
        rw [if_pos (by omega)]
        simp only [app1, this, cond_false, Nat.sub_self, lit_zero]
        rfl
      · rw [if_neg (by omega)]
        have e : i - n = (i - (n + 1)) + 1 := by omega
        rw [e]; rfl

theorem pcall_list {P : Program} {f : FuncId} {args : List TV} {n : Nat} {F : Nat → List AC} {b : Bool} {l : List Int} (h : PCall P f args (.tup [(false, [.view n 1 F]), (false, [.bool b])])) (hn : n = l.length) (hF : ∀ i, i < n → F i = [i64 (nth 0 l i)]) :
    PCall P f args (.tup [(false, [listV l]), (false, [.bool b])]) := by
  intro w im xs h1 h2 h3
  refine (h w im xs h1 h2 h3).mono ?_
  rintro e w' ⟨x, im', e1, e2, e3, e4, ys, e5, e6⟩
  refine ⟨x, im', e1, e2, e3, e4, ys, e5, ?_⟩
  generalize ys.toList = zs at e6 ⊢
  match zs, e6 with
  | [y1, y2], ⟨q1, q2, _⟩ =>
    refine ⟨?_, q2, trivial⟩
    obtain ⟨c, hc, hx⟩ := q1
    simp at hc; subst hc
    refine ⟨_, rfl, ?_⟩
    unfold listV
    simp only [CP] at hx ⊢
    obtain ⟨ad, cap, g1, g2, g3⟩ := hx
    subst hn
    refine ⟨ad, cap, g1, g2, fun i hi => ?_⟩
    obtain ⟨b, o, k1, k2, k3, k4⟩ := g3 i hi
    rw [hF i hi] at k3 k4
    exact ⟨b, o, k1, k2, k3, k4⟩
theorem pcall_nil {P : Program} {f : FuncId} {args : List TV} {b : Bool} (h : PCall P f args (.tup [(false, [.nilSl]), (false, [.bool b])])) : PCall P f args (.tup [(false, [listV []]), (false, [.bool b])]) := by
  intro w im xs h1 h2 h3
  refine (h w im xs h1 h2 h3).mono ?_
  rintro e w' ⟨x, im', e1, e2, e3, e4, ys, e5, e6⟩
  refine ⟨x, im', e1, e2, e3, e4, ys, e5, ?_⟩
  generalize ys.toList = zs at e6 ⊢
  match zs, e6 with
  | [y1, y2], ⟨q1, q2, _⟩ =>
    refine ⟨?_, q2, trivial⟩
    obtain ⟨c, hc, hx⟩ := q1
    simp at hc; subst hc
    refine ⟨_, rfl, ?_⟩
    unfold listV
    simp only [CP] at hx ⊢
    exact ⟨none, 0, hx, Nat.le_refl _, fun i hi => absurd hi (Nat.not_lt_zero i)⟩

/-! ### the speeds of a stop -/
def stopP (j k : Int) : Nat → Int → Int → List Int × Bool
  | 0, v, _ => ([], decide (v ≤ 0))
  | n + 1, v, a => if v ≤ 0 then ([], true) else ((v + brakeZ j k v a) :: (stopP j k n (v + brakeZ j k v a) (brakeZ j k v a)).1, (stopP j k n (v + brakeZ j k v a) (brakeZ j k v a)).2)
def stopR (j k : Int) : Nat → Int → Int → List Int × Bool
  | 0, v, a => if v ≤ 0 then ([], true) else ([v + brakeZ j k v a], false)
  | n + 1, v, a => if v ≤ 0 then ([], true) else ((v + brakeZ j k v a) :: (stopR j k n (v + brakeZ j k v a) (brakeZ j k v a)).1, (stopR j k n (v + brakeZ j k v a) (brakeZ j k v a)).2)
theorem stopR_eq (j k : Int) : ∀ (n : Nat) (v a : Int), (stopR j k n v a).2 = (stopP j k n v a).2 ∧ ((stopP j k n v a).2 = true → (stopR j k n v a).1 = (stopP j k n v a).1)
  | 0, v, a => by
    unfold stopR stopP
    by_cases h : v ≤ 0 <;> simp [h]
  | n + 1, v, a => by
    have ih := stopR_eq j k n (v + brakeZ j k v a) (brakeZ j k v a)
    unfold stopR stopP
    by_cases h : v ≤ 0
    · simp [h]
    · simp only [h, if_false]
      exact ⟨ih.1, fun hh => by rw [ih.2 hh]⟩
def stopZ (j k v a : Int) : List Int × Bool := if readyM j k v a = true then (if (stopP j k 4096 v a).2 = true then (stopP j k 4096 v a) else ([], false)) else ([], false)
def sStop : List TV → Option (Bool × TV)
  | [.v true [.int .i64 j, .int .i64 k, .int .i64 r], .v false [.int .i64 v], .v false [.int .i64 a]] => some (planM j k r, .tup [(false, [listV (stopZ j k v a).1]), (false, [.bool (stopZ j k v a).2])])
  | _ => none

def sk20 : Sk := ⟨mkT 36 0 [(1, false, 1), (2, false, 1), (3, false, 1), (8, false, 1)], [(3, 23, 3)], [(8, 3, 1)]⟩
def sko20 : Sk := ⟨mkT 36 0 [(8, false, 1)], [(3, 23, 3)], [(8, 3, 1)]⟩
def skr20 : Sk := ⟨mkT 36 0 [(6, false, 1), (7, false, 1), (8, false, 1)], [(3, 23, 3)], [(8, 3, 1)]⟩
def S20 (v a : Int) (n : Nat) (j k r : Int) (f : Nat → List AC) : St := buildSk sk20 [i64 v, i64 a, .ptr 3 0, .own 8 1 n, i64 j, i64 k, i64 r, .view n 1 f]
def O20 (n : Nat) (j k r : Int) (f : Nat → List AC) : St := buildSk sko20 [.own 8 1 n, i64 j, i64 k, i64 r, .view n 1 f]
def R20 (n : Nat) (j k r : Int) (f : Nat → List AC) : St := buildSk skr20 [.nilSl, .bool false, .own 8 1 n, i64 j, i64 k, i64 r, .view n 1 f]
noncomputable def G20 : List AC → List (Bool × Ex × St)
  | [.int .i64 v, .int .i64 a, .ptr 3 0, .own 8 1 m, .int .i64 j, .int .i64 k, .int .i64 r, .view n 1 f] =>
    [(dec (m = n ∧ n = 0 ∧ planM j k r = true ∧ readyM j k v a = true) && (stopP j k 4096 v a).2, .exit 0, O20 (0 + (stopP j k 4096 v a).1.length) j k r (appL f 0 (stopP j k 4096 v a).1)),
     (dec (m = n ∧ n = 0 ∧ planM j k r = true ∧ readyM j k v a = true) && !(stopP j k 4096 v a).2, .ret, R20 (0 + (stopP j k 4096 v a).1.length) j k r (appL f 0 (stopP j k 4096 v a).1))]
  | _ => []
noncomputable def K20 : Cfg := { spec := lookS T3, eqOk := [], ann := fun _ => ⟨some [1, 2, 3, 8], some [6, 7, 8], [(8, 3, 1)]⟩, lspec := fun b => bif Nat.beq b 0 then some (specSk sk20 G20) else none }
noncomputable def B20 : Code := loopAt (fnLoops Try.prog 20) 0
theorem loops20 : fnLoops Try.prog 20 = [(0, B20)] := by kernel_rfl
theorem round20 {R : Type} (K : Ex → St → Option R) (L0 L n : Nat) (v a j k r : Int) (f : Nat → List AC) :
    loopN (fun s K => codeK Try.prog K20 L0 B20 0 s K) (K20.ann 0).keep (K20.ann 0).out [3] [8] (L + 1) (S20 v a n j k r f) K =
    bif decide (v > 0) then
      bif (n : Int) == 4096 then K .ret (R20 n j k r f)
      else bif brakeG j k r v a then
        bif Nat.ble ((n + 1) * 8) 140737488355328 then
          loopN (fun s K => codeK Try.prog K20 L0 B20 0 s K) (K20.ann 0).keep (K20.ann 0).out [3] [8] L (S20 (IntKind.i64.wrap (v + brakeZ j k v a)) (brakeZ j k v a) (n + 1) j k r (app1 f n (IntKind.i64.wrap (v + brakeZ j k v a)))) K
        else none
      else none
    else K (.exit 0) (O20 n j k r f) := by kernel_rfl

theorem ready_range {j k r v a : Int} (hp : planM j k r = true) (hr : readyM j k v a = true) : -65536 ≤ a ∧ a ≤ 65536 ∧ 0 ≤ v ∧ v ≤ 16777216 := by
  rw [plan_iff] at hp
  rw [ready_iff] at hr
  have h1 := loss_pos (k := k) (b := a) (by omega)
  have h2 := loss_pos (k := k) (b := -a) (by omega)
  omega
theorem ready_brakeG {j k r v a : Int} (hp : planM j k r = true) (hr : readyM j k v a = true) : brakeG j k r v a = true := by
  have := ready_range hp hr
  rw [brakeG_iff]
  exact ⟨hp, by omega, by omega, by omega, by omega⟩

theorem loop20 {R : Type} (K : Ex → St → Option R) (L0 : Nat) (j k r : Int) (hp : planM j k r = true) : ∀ (d n : Nat) (v a : Int) (f : Nat → List AC), n + d = 4096 → readyM j k v a = true →
    loopN (fun s K => codeK Try.prog K20 L0 B20 0 s K) (K20.ann 0).keep (K20.ann 0).out [3] [8] (d + 1) (S20 v a n j k r f) K =
      cond (stopP j k d v a).2 (K (.exit 0) (O20 (n + (stopP j k d v a).1.length) j k r (appL f n (stopP j k d v a).1))) (K .ret (R20 (n + (stopP j k d v a).1.length) j k r (appL f n (stopP j k d v a).1)))
  | 0, n, v, a, f, hn, hr => by
    rw [round20]
    unfold stopP
    have e : n = 4096 := by omega
    subst e
    by_cases hv : v ≤ 0
    · rw [decide_eq_false (show ¬ v > 0 by omega), decide_eq_true hv]; rfl
    · rw [decide_eq_true (show v > 0 by omega), decide_eq_false hv]; rfl
  | d + 1, n, v, a, f, hn, hr => by
    rw [round20]
    unfold stopP
    by_cases hv : v ≤ 0
    · rw [decide_eq_false (show ¬ v > 0 by omega), if_pos hv]; rfl
    · have hc := closed hp hr
      have hg := ready_range hp hr
      have hg' := ready_range hp hc.1
      have hne : ((n : Int) == 4096) = false := by
        simp only [beq_eq_false_iff_ne]; omega
      have hbl : Nat.ble ((n + 1) * 8) 140737488355328 = true := Nat.ble_eq_true_of_le (by omega)
      rw [decide_eq_true (show v > 0 by omega), if_neg hv, hne, ready_brakeG hp hr, hbl, wrap_id (by omega)]
      have ih := loop20 K L0 j k r hp d (n + 1) (v + brakeZ j k v a) (brakeZ j k v a) (app1 f n (v + brakeZ j k v a)) (by omega) hc.1
      simp only [cond_true, cond_false]
      rw [ih]
      have e : ∀ m : Nat, n + 1 + m = n + (m + 1) := fun m => by omega
      simp only [List.length_cons, appL, e]
theorem loopOK20 : LoopOK Try.prog K20 0 B20 := by
  refine loopOK_of (sk := sk20) (G := G20) rfl ?_
  intro R l K v h
  unfold G20 at h
  split at h
  · rename_i v a m j k r n f
    simp only [pickK] at h
    cases hd : dec (m = n ∧ n = 0 ∧ planM j k r = true ∧ readyM j k v a = true) <;> rw [hd] at h
    · simp at h
    · obtain ⟨rfl, rfl, hp, hr⟩ := of_dec hd
      refine ⟨4097, ?_⟩
      have := loop20 K 4097 j k r hp 4096 0 v a f (by omega) hr
      rw [← h]
      refine this.trans ?_
      cases (stopP j k 4096 v a).2 <;> rfl
  · simp [pickK] at h
theorem sound20 {args : List TV} {v : TV} (h : funK Try.prog K20 0 20 args = some v) : PCall Try.prog 20 args v :=
  funK_sound_loops (specOK_of rfl all3) (fun t ht => by cases ht) mixed (fun p hp => by rw [loops20] at hp; simp at hp; subst hp; exact loopOK20) h

def f00 : Nat → List AC := fun _ => []
theorem k_stop (j k r v a : Int) (L : Nat) : funK Try.prog K20 L 20 [Pl j k r, .v false [i64 v], .v false [i64 a]] =
    bif !planM j k r then some (.tup [(false, [.nilSl]), (false, [.bool false])]) else
    bif planM j k r then bif !readyM j k v a then some (.tup [(false, [.nilSl]), (false, [.bool false])]) else
    bif dec ((0 : Nat) = 0 ∧ (0 : Nat) = 0 ∧ planM j k r = true ∧ readyM j k v a = true) && (stopP j k 4096 v a).2 then some (.tup [(false, [.view (0 + (stopP j k 4096 v a).1.length) 1 (appL f00 0 (stopP j k 4096 v a).1)]), (false, [.bool true])]) else
    bif dec ((0 : Nat) = 0 ∧ (0 : Nat) = 0 ∧ planM j k r = true ∧ readyM j k v a = true) && !(stopP j k 4096 v a).2 then some (.tup [(false, [.nilSl]), (false, [.bool false])]) else none
    else none := by kernel_rfl
theorem stop_list {P : Program} {f : FuncId} {args : List TV} {l : List Int} (h : PCall P f args (.tup [(false, [.view (0 + l.length) 1 (appL f00 0 l)]), (false, [.bool true])])) : PCall P f args (.tup [(false, [listV l]), (false, [.bool true])]) :=
  pcall_list h (by omega) fun i hi => by
    rw [appL_get l f00 0 i (by omega)]
    simp
theorem p_stop {j k r v a : Int} (hp : planM j k r = true) : PCall Try.prog 20 [Pl j k r, .v false [i64 v], .v false [i64 a]] (.tup [(false, [listV (stopZ j k v a).1]), (false, [.bool (stopZ j k v a).2])]) := by
  have hk := k_stop j k r v a 0
  rw [hp] at hk
  unfold stopZ
  by_cases hr : readyM j k v a = true
  · rw [hr, dec_true ⟨rfl, rfl, rfl, rfl⟩] at hk
    rw [if_pos hr]
    cases hs : (stopP j k 4096 v a).2
    · rw [hs] at hk
      rw [if_neg (by simp)]
      exact pcall_nil (sound20 hk)
    · rw [hs] at hk
      rw [if_pos rfl, hs]
      exact stop_list (sound20 hk)
  · have hr' : readyM j k v a = false := by simpa using hr
    rw [hr'] at hk
    rw [if_neg hr]
    exact pcall_nil (sound20 hk)
theorem r_stop : RowOK Try.prog (20, sStop) := RowOK.mk (by kernel_rfl) (fun args v h => by
  unfold sStop at h; split at h
  · simp only [Option.some.injEq, Prod.mk.injEq] at h
    obtain ⟨h1, rfl⟩ := h
    exact p_stop h1
  · cases h)

/-! ### the document's -/
def sk22 : Sk := ⟨mkT 31 0 [(1, false, 1), (2, false, 1), (3, false, 1), (8, false, 1)], [(3, 23, 3)], [(8, 3, 1)]⟩
def sko22 : Sk := ⟨mkT 31 0 [(8, false, 1)], [(3, 23, 3)], [(8, 3, 1)]⟩
def skr22 : Sk := ⟨mkT 31 0 [(6, false, 1), (7, false, 1), (8, false, 1)], [(3, 23, 3)], [(8, 3, 1)]⟩
def S22 (v a : Int) (n : Nat) (j k r : Int) (f : Nat → List AC) : St := buildSk sk22 [i64 v, i64 a, .ptr 3 0, .own 8 1 n, i64 j, i64 k, i64 r, .view n 1 f]
def O22 (n : Nat) (j k r : Int) (f : Nat → List AC) : St := buildSk sko22 [.own 8 1 n, i64 j, i64 k, i64 r, .view n 1 f]
def R22 (n : Nat) (j k r : Int) (f : Nat → List AC) : St := buildSk skr22 [.nilSl, .bool false, .own 8 1 n, i64 j, i64 k, i64 r, .view n 1 f]
noncomputable def G22 : List AC → List (Bool × Ex × St)
  | [.int .i64 v, .int .i64 a, .ptr 3 0, .own 8 1 m, .int .i64 j, .int .i64 k, .int .i64 r, .view n 1 f] =>
    [(dec (m = n ∧ n = 0 ∧ planM j k r = true ∧ readyM j k v a = true) && (stopR j k 4096 v a).2, .exit 0, O22 (0 + (stopR j k 4096 v a).1.length) j k r (appL f 0 (stopR j k 4096 v a).1)),
     (dec (m = n ∧ n = 0 ∧ planM j k r = true ∧ readyM j k v a = true) && !(stopR j k 4096 v a).2, .ret, R22 (0 + (stopR j k 4096 v a).1.length) j k r (appL f 0 (stopR j k 4096 v a).1))]
  | _ => []
noncomputable def K22 : Cfg := { spec := lookS T3, eqOk := [], ann := fun _ => ⟨some [1, 2, 3, 8], some [6, 7, 8], [(8, 3, 1)]⟩, lspec := fun b => bif Nat.beq b 0 then some (specSk sk22 G22) else none }
noncomputable def B22 : Code := loopAt (fnLoops Try.prog 22) 0
theorem loops22 : fnLoops Try.prog 22 = [(0, B22)] := by kernel_rfl
theorem round22 {R : Type} (K : Ex → St → Option R) (L0 L n : Nat) (v a j k r : Int) (f : Nat → List AC) :
    loopN (fun s K => codeK Try.prog K22 L0 B22 0 s K) (K22.ann 0).keep (K22.ann 0).out [3] [8] (L + 1) (S22 v a n j k r f) K =
    bif decide (v > 0) then
      bif brakeG j k r v a then
        bif Nat.ble ((n + 1) * 8) 140737488355328 then
          bif decide (((n + 1 : Nat) : Int) > 4096) then K .ret (R22 (n + 1) j k r (app1 f n (IntKind.i64.wrap (v + brakeZ j k v a))))
          else loopN (fun s K => codeK Try.prog K22 L0 B22 0 s K) (K22.ann 0).keep (K22.ann 0).out [3] [8] L (S22 (IntKind.i64.wrap (v + brakeZ j k v a)) (brakeZ j k v a) (n + 1) j k r (app1 f n (IntKind.i64.wrap (v + brakeZ j k v a)))) K
        else none
      else none
    else K (.exit 0) (O22 n j k r f) := by kernel_rfl
theorem loop22 {R : Type} (K : Ex → St → Option R) (L0 : Nat) (j k r : Int) (hp : planM j k r = true) : ∀ (d n : Nat) (v a : Int) (f : Nat → List AC), n + d = 4096 → readyM j k v a = true →
    loopN (fun s K => codeK Try.prog K22 L0 B22 0 s K) (K22.ann 0).keep (K22.ann 0).out [3] [8] (d + 1) (S22 v a n j k r f) K =
      cond (stopR j k d v a).2 (K (.exit 0) (O22 (n + (stopR j k d v a).1.length) j k r (appL f n (stopR j k d v a).1))) (K .ret (R22 (n + (stopR j k d v a).1.length) j k r (appL f n (stopR j k d v a).1)))
  | d, n, v, a, f, hn, hr => by
    rw [round22]
    by_cases hv : v ≤ 0
    · rw [decide_eq_false (show ¬ v > 0 by omega)]
      cases d <;> (unfold stopR; rw [if_pos hv]; rfl)
    · have hc := closed hp hr
      have hg := ready_range hp hr
      have hg' := ready_range hp hc.1
      have hbl : Nat.ble ((n + 1) * 8) 140737488355328 = true := Nat.ble_eq_true_of_le (by omega)
      rw [decide_eq_true (show v > 0 by omega), ready_brakeG hp hr, hbl, wrap_id (by omega)]
      cases d with
      | zero =>
        have hne : decide (((n + 1 : Nat) : Int) > 4096) = true := decide_eq_true (by omega)
        rw [hne]
        unfold stopR
        rw [if_neg hv]
        rfl
      | succ d =>
        have hne : decide (((n + 1 : Nat) : Int) > 4096) = false := decide_eq_false (by omega)
        rw [hne]
        have ih := loop22 K L0 j k r hp d (n + 1) (v + brakeZ j k v a) (brakeZ j k v a) (app1 f n (v + brakeZ j k v a)) (by omega) hc.1
        simp only [cond_true, cond_false]
        rw [ih]
        have e : ∀ m : Nat, n + 1 + m = n + (m + 1) := fun m => by omega
        conv => rhs; unfold stopR
        rw [if_neg hv]
        simp only [List.length_cons, appL, e]
theorem loopOK22 : LoopOK Try.prog K22 0 B22 := by
  refine loopOK_of (sk := sk22) (G := G22) rfl ?_
  intro R l K v h
  unfold G22 at h
  split at h
  · rename_i v a m j k r n f
    simp only [pickK] at h
    cases hd : dec (m = n ∧ n = 0 ∧ planM j k r = true ∧ readyM j k v a = true) <;> rw [hd] at h
    · simp at h
    · obtain ⟨rfl, rfl, hp, hr⟩ := of_dec hd
      refine ⟨4097, ?_⟩
      have := loop22 K 4097 j k r hp 4096 0 v a f (by omega) hr
      rw [← h]
      refine this.trans ?_
      cases (stopR j k 4096 v a).2 <;> rfl
  · simp [pickK] at h
theorem sound22 {args : List TV} {v : TV} (h : funK Try.prog K22 0 22 args = some v) : PCall Try.prog 22 args v :=
  funK_sound_loops (specOK_of rfl all3) (fun t ht => by cases ht) mixed (fun p hp => by rw [loops22] at hp; simp at hp; subst hp; exact loopOK22) h
theorem k_stop' (j k r v a : Int) (L : Nat) : funK Try.prog K22 L 22 [Pl j k r, .v false [i64 v], .v false [i64 a]] =
    bif planM j k r then bif !readyM j k v a then some (.tup [(false, [.nilSl]), (false, [.bool false])]) else
    bif dec ((0 : Nat) = 0 ∧ (0 : Nat) = 0 ∧ planM j k r = true ∧ readyM j k v a = true) && (stopR j k 4096 v a).2 then some (.tup [(false, [.view (0 + (stopR j k 4096 v a).1.length) 1 (appL f00 0 (stopR j k 4096 v a).1)]), (false, [.bool true])]) else
    bif dec ((0 : Nat) = 0 ∧ (0 : Nat) = 0 ∧ planM j k r = true ∧ readyM j k v a = true) && !(stopR j k 4096 v a).2 then some (.tup [(false, [.nilSl]), (false, [.bool false])]) else none
    else none := by kernel_rfl
theorem p_stop' {j k r v a : Int} (hp : planM j k r = true) : PCall Try.prog 22 [Pl j k r, .v false [i64 v], .v false [i64 a]] (.tup [(false, [listV (stopZ j k v a).1]), (false, [.bool (stopZ j k v a).2])]) := by
  have hk := k_stop' j k r v a 0
  have he := stopR_eq j k 4096 v a
  rw [hp] at hk
  unfold stopZ
  by_cases hr : readyM j k v a = true
  · rw [hr, dec_true ⟨rfl, rfl, rfl, rfl⟩, he.1] at hk
    rw [if_pos hr]
    cases hs : (stopP j k 4096 v a).2
    · rw [hs] at hk
      rw [if_neg (by simp)]
      exact pcall_nil (sound22 hk)
    · rw [hs, he.2 hs] at hk
      rw [if_pos rfl, hs]
      exact stop_list (sound22 hk)
  · have hr' : readyM j k v a = false := by simpa using hr
    rw [hr'] at hk
    rw [if_neg hr]
    exact pcall_nil (sound22 hk)
theorem r_stop' : RowOK Try.prog (22, sStop) := RowOK.mk (by kernel_rfl) (fun args v h => by
  unfold sStop at h; split at h
  · simp only [Option.some.injEq, Prod.mk.injEq] at h
    obtain ⟨h1, rfl⟩ := h
    exact p_stop' h1
  · cases h)
end Go.Am
