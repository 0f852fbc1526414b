/- The speeds of a stop, and their sum. -/
import Derived.Test.YtbhinbhppddifaaPrRest
namespace Go.Am
open Go.Proofs

def sumW (a : Nat → Int) : Nat → Nat → Int → Int
  | 0, _, s => s
  | d + 1, i, s => sumW a d (i + 1) (IntKind.i64.wrap (s + a i))
def sumL (l : List Int) : Int := sumW (nth 0 l) l.length 0 0
theorem stopZ_len (j k v a : Int) : (stopZ j k v a).1.length ≤ 4096 := by
  unfold stopZ
  split
  · split
    · exact stopP_len j k 4096 v a
    · simp
  · simp

/-! ### Distance -/
def sDist : List TV → Option (Bool × TV)
  | [.v true [.int .i64 j, .int .i64 k, .int .i64 r], .v false [.int .i64 v], .v false [.int .i64 a]] => some (planM j k r, .tup [(false, [i64 (sumL (stopZ j k v a).1)]), (false, [.bool (stopZ j k v a).2])])
  | _ => none
def sk23 : Sk := ⟨mkT 32 0 [(9, false, 1), (10, false, 1), (20, false, 1), (21, false, 1), (22, false, 1)], [(3, 23, 3)], []⟩
def sko23 : Sk := ⟨mkT 32 0 [(9, false, 1), (10, false, 1)], [(3, 23, 3)], []⟩
def S23 (x : Bool) (s : Int) (n : Nat) (f : Nat → List AC) (m i j k r : Int) : St := buildSk sk23 [.bool x, i64 s, .view n 1 f, i64 m, i64 i, i64 j, i64 k, i64 r]
def O23 (x : Bool) (s j k r : Int) : St := buildSk sko23 [.bool x, i64 s, i64 j, i64 k, i64 r]
noncomputable def G23 : List AC → List (Bool × Ex × St)
  | [.bool x, .int .i64 s, .view n 1 f, .int .i64 m, .int .i64 i, .int .i64 j, .int .i64 k, .int .i64 r] => [(dec ((∃ a, f = ivals a) ∧ m = n ∧ i = 0 ∧ n ≤ 1073741824), .exit 0, O23 x (sumW (fun i => intAt (f i)) n 0 s) j k r)]
  | _ => []
noncomputable def K23 : Cfg := { spec := lookS T4, eqOk := [], ann := fun _ => ⟨some [9, 10, 20, 21, 22], some [9, 10], []⟩, lspec := fun b => bif Nat.beq b 0 then some (specSk sk23 G23) else none }
noncomputable def B23 : Code := loopAt (fnLoops Try.prog 23) 0
theorem loops23 : fnLoops Try.prog 23 = [(0, B23)] := by kernel_rfl
theorem round23 {R : Type} (K : Ex → St → Option R) (L0 L n i : Nat) (x : Bool) (s m j k r : Int) (a : Nat → Int) :
    loopN (fun s K => codeK Try.prog K23 L0 B23 0 s K) (K23.ann 0).keep (K23.ann 0).out [3] [] (L + 1) (S23 x s n (ivals a) m i j k r) K =
    bif decide ((i : Int) < m) then
      bif decide (0 ≤ (i : Int)) && decide ((i : Int) < (n : Int)) then
        loopN (fun s K => codeK Try.prog K23 L0 B23 0 s K) (K23.ann 0).keep (K23.ann 0).out [3] [] L (S23 x (IntKind.i64.wrap (s + a i)) n (ivals a) m (IntKind.i64.wrap (i + 1)) j k r) K
      else none
    else K (.exit 0) (O23 x s j k r) := by kernel_rfl
theorem loop23 {R : Type} (K : Ex → St → Option R) (L0 n : Nat) (hn : n ≤ 1073741824) (x : Bool) (j k r : Int) (a : Nat → Int) : ∀ (d i : Nat) (s : Int), i + d = n →
    loopN (fun s K => codeK Try.prog K23 L0 B23 0 s K) (K23.ann 0).keep (K23.ann 0).out [3] [] (d + 1) (S23 x s n (ivals a) n i j k r) K = K (.exit 0) (O23 x (sumW a d i s) j k r)
  | 0, i, s, hi => by
    rw [round23, decide_eq_false (by omega)]; rfl
  | d + 1, i, s, hi => by
    have c3 : IntKind.i64.wrap ((i : Int) + 1) = ((i + 1 : Nat) : Int) := by
      rw [wrap_id (by omega)]; simp
    rw [round23, decide_eq_true (show (i : Int) < (n : Int) by omega), decide_eq_true (show 0 ≤ (i : Int) by omega), c3]
    simp only [Bool.and_self, cond_true]
    exact loop23 K L0 n hn x j k r a d (i + 1) _ (by omega)
theorem loopOK23 : LoopOK Try.prog K23 0 B23 := by
  refine loopOK_of (sk := sk23) (G := G23) rfl ?_
  intro R l K v h
  unfold G23 at h
  split at h
  · rename_i x s n f m i j k r
    simp only [pickK] at h
    cases hd : dec ((∃ a, f = ivals a) ∧ m = n ∧ i = 0 ∧ n ≤ 1073741824) <;> rw [hd] at h
    · simp at h
    · simp only [cond_true] at h
      obtain ⟨⟨a, rfl⟩, rfl, rfl, hn⟩ := of_dec hd
      refine ⟨n + 1, ?_⟩
      rw [← h]
      exact loop23 K (n + 1) n hn x j k r a n 0 s (by omega)
  · simp [pickK] at h
theorem sound23 {args : List TV} {v : TV} (h : funK Try.prog K23 0 23 args = some v) : PCall Try.prog 23 args v :=
  funK_sound_loops (specOK_of rfl all4) (fun t ht => by cases ht) mixed (fun p hp => by rw [loops23] at hp; simp at hp; subst hp; exact loopOK23) h
theorem k_dist (j k r v a : Int) (L : Nat) (hp : planM j k r = true) : funK Try.prog K23 L 23 [Pl j k r, .v false [i64 v], .v false [i64 a]] = some (.tup [(false, [i64 (sumL (stopZ j k v a).1)]), (false, [.bool (stopZ j k v a).2])]) := by
  refine Eq.trans (b := bif planM j k r then
      bif dec ((∃ a', (fun i => [i64 (nth 0 (stopZ j k v a).1 i)]) = ivals a') ∧ ((stopZ j k v a).1.length : Int) = ((stopZ j k v a).1.length : Nat) ∧ (0 : Int) = 0 ∧ (stopZ j k v a).1.length ≤ 1073741824) then
        some (.tup [(false, [i64 (sumW (fun i => intAt [i64 (nth 0 (stopZ j k v a).1 i)]) (stopZ j k v a).1.length 0 0)]), (false, [.bool (stopZ j k v a).2])])
      else none
    else none) (by kernel_rfl) ?_
  have := stopZ_len j k v a
  rw [hp, dec_true ⟨⟨nth 0 (stopZ j k v a).1, rfl⟩, rfl, rfl, by omega⟩]
  rfl
theorem r_dist : RowOK Try.prog (23, sDist) := RowOK.mk (by kernel_rfl) (fun args v h => by
  unfold sDist at h; split at h
  · simp only [Option.some.injEq, Prod.mk.injEq] at h
    obtain ⟨h1, rfl⟩ := h
    exact sound23 (k_dist _ _ _ _ _ 0 h1)
  · cases h)

/-! ### ProfileStop -/
def T6 : List (Nat × (List TV → Option (Bool × TV))) := (23, sDist) :: T5
theorem all6 : AllOK Try.prog T6 := ⟨r_dist, all5⟩
def sk10 : Sk := ⟨mkT 72 0 [(7, false, 1), (8, false, 1), (9, false, 1), (10, false, 1), (11, false, 1), (12, false, 1), (13, false, 1), (44, false, 1), (45, false, 1), (46, false, 1)], [(3, 23, 3)], []⟩
def sko10 : Sk := ⟨mkT 72 0 [(7, false, 1), (8, false, 1), (9, false, 1), (10, false, 1), (11, false, 1), (12, false, 1), (13, false, 1)], [(3, 23, 3)], []⟩
def S10 (n0 : Nat) (f0 : Nat → List AC) (x y z : Bool) (dd : Int) (s : Int) (n : Nat) (f : Nat → List AC) (m i j k r : Int) : St :=
  buildSk sk10 [.view n0 1 f0, .bool x, .view n 1 f, .bool y, i64 dd, .bool z, i64 s, .view n 1 f, i64 m, i64 i, i64 j, i64 k, i64 r]
def O10 (n0 : Nat) (f0 : Nat → List AC) (x y z : Bool) (dd : Int) (s : Int) (n : Nat) (f : Nat → List AC) (j k r : Int) : St :=
  buildSk sko10 [.view n0 1 f0, .bool x, .view n 1 f, .bool y, i64 dd, .bool z, i64 s, i64 j, i64 k, i64 r]
noncomputable def G10 : List AC → List (Bool × Ex × St)
  | [.view n0 1 f0, .bool x, .view n 1 f, .bool y, .int .i64 dd, .bool z, .int .i64 s, .view n' 1 f', .int .i64 m, .int .i64 i, .int .i64 j, .int .i64 k, .int .i64 r] =>
    [(dec ((∃ a, f = ivals a) ∧ n' = n ∧ f' = f ∧ m = n ∧ i = 0 ∧ n ≤ 1073741824), .exit 0, O10 n0 f0 x y z dd (sumW (fun i => intAt (f i)) n 0 s) n f j k r)]
  | _ => []
noncomputable def K10 : Cfg := { spec := lookS T6, eqOk := [], ann := fun _ => ⟨some [7, 8, 9, 10, 11, 12, 13, 44, 45, 46], some [7, 8, 9, 10, 11, 12, 13], []⟩, lspec := fun b => bif Nat.beq b 0 then some (specSk sk10 G10) else none }
noncomputable def B10 : Code := loopAt (fnLoops Try.prog 10) 0
theorem loops10 : fnLoops Try.prog 10 = [(0, B10)] := by kernel_rfl
theorem round10 {R : Type} (K : Ex → St → Option R) (L0 L n0 n i : Nat) (f0 : Nat → List AC) (x y z : Bool) (dd s m j k r : Int) (a : Nat → Int) :
    loopN (fun s K => codeK Try.prog K10 L0 B10 0 s K) (K10.ann 0).keep (K10.ann 0).out [3] [] (L + 1) (S10 n0 f0 x y z dd s n (ivals a) m i j k r) K =
    bif decide ((i : Int) < m) then
      bif decide (0 ≤ (i : Int)) && decide ((i : Int) < (n : Int)) then
        loopN (fun s K => codeK Try.prog K10 L0 B10 0 s K) (K10.ann 0).keep (K10.ann 0).out [3] [] L (S10 n0 f0 x y z dd (IntKind.i64.wrap (s + a i)) n (ivals a) m (IntKind.i64.wrap (i + 1)) j k r) K
      else none
    else K (.exit 0) (O10 n0 f0 x y z dd s n (ivals a) j k r) := by kernel_rfl
theorem loop10 {R : Type} (K : Ex → St → Option R) (L0 n0 n : Nat) (hn : n ≤ 1073741824) (f0 : Nat → List AC) (x y z : Bool) (dd j k r : Int) (a : Nat → Int) : ∀ (d i : Nat) (s : Int), i + d = n →
    loopN (fun s K => codeK Try.prog K10 L0 B10 0 s K) (K10.ann 0).keep (K10.ann 0).out [3] [] (d + 1) (S10 n0 f0 x y z dd s n (ivals a) n i j k r) K = K (.exit 0) (O10 n0 f0 x y z dd (sumW a d i s) n (ivals a) j k r)
  | 0, i, s, hi => by
    rw [round10, decide_eq_false (by omega)]; rfl
  | d + 1, i, s, hi => by
    have c3 : IntKind.i64.wrap ((i : Int) + 1) = ((i + 1 : Nat) : Int) := by
      rw [wrap_id (by omega)]; simp
    rw [round10, decide_eq_true (show (i : Int) < (n : Int) by omega), decide_eq_true (show 0 ≤ (i : Int) by omega), c3]
    simp only [Bool.and_self, cond_true]
    exact loop10 K L0 n0 n hn f0 x y z dd j k r a d (i + 1) _ (by omega)
theorem loopOK10 : LoopOK Try.prog K10 0 B10 := by
  refine loopOK_of (sk := sk10) (G := G10) rfl ?_
  intro R l K v h
  unfold G10 at h
  split at h
  · rename_i n0 f0 x n f y dd z s n' f' m i j k r
    simp only [pickK] at h
    cases hd : dec ((∃ a, f = ivals a) ∧ n' = n ∧ f' = f ∧ m = n ∧ i = 0 ∧ n ≤ 1073741824) <;> rw [hd] at h
    · simp at h
    · simp only [cond_true] at h
      obtain ⟨⟨a, rfl⟩, rfl, rfl, rfl, rfl, hn⟩ := of_dec hd
      refine ⟨n' + 1, ?_⟩
      rw [← h]
      exact loop10 K (n' + 1) n0 n' hn f0 x y z dd j k r a n' 0 s (by omega)
  · simp [pickK] at h
theorem sound10 {args : List TV} {v : TV} (h : funK Try.prog K10 0 10 args = some v) : PCall Try.prog 10 args v :=
  funK_sound_loops (specOK_of rfl all6) (fun t ht => by cases ht) mixed (fun p hp => by rw [loops10] at hp; simp at hp; subst hp; exact loopOK10) h
theorem law_stop (j k r v a : Int) (L : Nat) : funK Try.prog K10 L 10 [Pl j k r, .v false [i64 v], .v false [i64 a]] = some (.v false [.bool true]) := by
  obtain ⟨Z, hZ⟩ : ∃ Z, Z = stopZ j k v a := ⟨_, rfl⟩
  refine Eq.trans (b := bif !shortM j k r v a then some (TV.v false [AC.bool true])
    else
      bif planM j k r then
        bif planM j k r then
          bif planM j k r then
            bif dec ((∃ a', (fun i => [i64 (nth 0 (stopZ j k v a).1 i)]) = ivals a') ∧ (stopZ j k v a).1.length = (stopZ j k v a).1.length ∧ (fun i => [i64 (nth 0 (stopZ j k v a).1 i)]) = (fun i => [i64 (nth 0 (stopZ j k v a).1 i)]) ∧ ((stopZ j k v a).1.length : Int) = ((stopZ j k v a).1.length : Nat) ∧ (0 : Int) = 0 ∧ (stopZ j k v a).1.length ≤ 1073741824) then
              bif (stopZ j k v a).2 == (stopZ j k v a).2 then
                bif (stopZ j k v a).2 == (stopZ j k v a).2 then
                  bif sumL (stopZ j k v a).1 == sumW (fun i => intAt [i64 (nth 0 (stopZ j k v a).1 i)]) (stopZ j k v a).1.length 0 0 then
                    bif Nat.ble (stopZ j k v a).1.length 1073741824 && allInt (fun i => [i64 (nth 0 (stopZ j k v a).1 i)]) (stopZ j k v a).1.length && allInt (fun i => [i64 (nth 0 (stopZ j k v a).1 i)]) (stopZ j k v a).1.length then
                      some (TV.v false [AC.bool (sameM (stopZ j k v a).1.length (fun i => [i64 (nth 0 (stopZ j k v a).1 i)]) (stopZ j k v a).1.length (fun i => [i64 (nth 0 (stopZ j k v a).1 i)]))])
                    else none
                  else some (TV.v false [AC.bool false])
                else some (TV.v false [AC.bool false])
              else some (TV.v false [AC.bool false])
            else none
          else none
        else none
      else none) (by kernel_rfl) ?_
  cases hs : shortM j k r v a
  · rfl
  have hp : planM j k r = true := by
    simp only [shortM, Bool.and_eq_true] at hs
    exact hs.1.1.1.1
  have hl := stopZ_len j k v a
  rw [hp, dec_true ⟨⟨nth 0 (stopZ j k v a).1, rfl⟩, rfl, rfl, rfl, rfl, by omega⟩]
  have e1 : (sumL (stopZ j k v a).1 == sumW (fun i => intAt [i64 (nth 0 (stopZ j k v a).1 i)]) (stopZ j k v a).1.length 0 0) = true := by
    rw [beq_iff_eq]; rfl
  have e2 : sameM (stopZ j k v a).1.length (fun i => [i64 (nth 0 (stopZ j k v a).1 i)]) (stopZ j k v a).1.length (fun i => [i64 (nth 0 (stopZ j k v a).1 i)]) = true := by
    unfold sameM
    simp only [BEq.rfl, Bool.true_and]
    rw [eqUp_iff]
    exact fun i _ => rfl
  have e3 : Nat.ble (stopZ j k v a).1.length 1073741824 = true := Nat.ble_eq_true_of_le (by omega)
  rw [e1, e2, e3, allInt_iv]
  simp
end Go.Am
