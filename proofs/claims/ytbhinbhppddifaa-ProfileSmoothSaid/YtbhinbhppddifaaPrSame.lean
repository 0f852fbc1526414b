/- Two lists of numbers compared; the sanity check of layer 32; what is short. -/
import Derived.Test.YtbhinbhppddifaaPrStop
namespace Go.Am
open Go.Proofs

def eqUp (a b : Nat → Int) : Nat → Bool
  | 0 => true
  | n + 1 => a n == b n && eqUp a b n
theorem eqUp_iff {a b : Nat → Int} : ∀ {n : Nat}, eqUp a b n = true ↔ ∀ i, i < n → a i = b i
  | 0 => by simp [eqUp]
  | n + 1 => by
    simp only [eqUp, Bool.and_eq_true, beq_iff_eq, eqUp_iff (n := n)]
    constructor
    · rintro ⟨h1, h2⟩ i hi
      by_cases e : i = n
      · subst e; exact h1
      · exact h2 i (by omega)
    · intro h
      exact ⟨h n (by omega), fun i hi => h i (by omega)⟩
def sameM (n : Nat) (f : Nat → List AC) (m : Nat) (g : Nat → List AC) : Bool := n == m && eqUp (fun i => intAt (f i)) (fun i => intAt (g i)) n
def sSame : List TV → Option (Bool × TV)
  | [.v false [.view n 1 f], .v false [.view m 1 g]] => some (Nat.ble n 1073741824 && allInt f n && allInt g m, .v false [.bool (sameM n f m g)])
  | _ => none

theorem ptv_view {im : Nat → Prop} {w : World} {n : Nat} {F F' : Nat → List AC} (h : ∀ i, i < n → F i = F' i) {x : Value} (hx : PTV im w (.v false [.view n 1 F]) x) : PTV im w (.v false [.view n 1 F']) x := by
  obtain ⟨a, ha, hx⟩ := hx
  simp at ha; subst ha
  refine ⟨_, rfl, ?_⟩
  simp only [CP] at hx ⊢
  obtain ⟨ad, cap, g1, g2, g3⟩ := hx
  refine ⟨ad, cap, g1, g2, fun i hi => ?_⟩
  obtain ⟨b, o, k1, k2, k3, k4⟩ := g3 i hi
  rw [h i hi] at k3 k4
  exact ⟨b, o, k1, k2, k3, k4⟩
theorem pcall_args2 {P : Program} {q : FuncId} {n m : Nat} {F F' G G' : Nat → List AC} {v : TV} (h1 : ∀ i, i < n → F i = F' i) (h2 : ∀ i, i < m → G i = G' i)
    (h : PCall P q [.v false [.view n 1 F'], .v false [.view m 1 G']] v) : PCall P q [.v false [.view n 1 F], .v false [.view m 1 G]] v := by
  intro w im xs hl hx hi
  refine h w im xs hl (fun i a x ha hx' => ?_) hi
  match i, ha with
  | 0, ha => simp at ha; subst ha; exact ptv_view h1 (hx 0 _ x rfl hx')
  | 1, ha => simp at ha; subst ha; exact ptv_view h2 (hx 1 _ x rfl hx')
  | i + 2, ha => simp at ha

def ivals (gi : Nat → Int) : Nat → List AC := fun i => [i64 (gi i)]
def sk21 : Sk := ⟨mkT 26 0 [(0, false, 1), (1, false, 1), (12, false, 1), (13, false, 1)], [], []⟩
def sko21 : Sk := ⟨mkT 26 0 [], [], []⟩
def skr21 : Sk := ⟨mkT 26 0 [(4, false, 1)], [], []⟩
def S21 (n m : Nat) (j : Int) (f g : Nat → List AC) : St := buildSk sk21 [.view n 1 f, .view m 1 g, i64 (n : Int), i64 j]
def O21 : St := buildSk sko21 []
def R21 : St := buildSk skr21 [.bool false]
noncomputable def G21 : List AC → List (Bool × Ex × St)
  | [.view n 1 f, .view m 1 g, .int .i64 l, .int .i64 j] =>
    [(dec ((∃ a, f = ivals a) ∧ (∃ b, g = ivals b) ∧ l = n ∧ j = 0 ∧ n = m ∧ n ≤ 1073741824) && sameM n f m g, .exit 0, O21),
     (dec ((∃ a, f = ivals a) ∧ (∃ b, g = ivals b) ∧ l = n ∧ j = 0 ∧ n = m ∧ n ≤ 1073741824) && !sameM n f m g, .ret, R21)]
  | _ => []
noncomputable def K21 : Cfg := { spec := fun _ => none, eqOk := [], ann := fun _ => ⟨some [0, 1, 12, 13], some [4], []⟩, lspec := fun b => bif Nat.beq b 0 then some (specSk sk21 G21) else none }
noncomputable def B21 : Code := loopAt (fnLoops Try.prog 21) 0
theorem loops21 : fnLoops Try.prog 21 = [(0, B21)] := by kernel_rfl
theorem round21 {R : Type} (K : Ex → St → Option R) (L0 L n m j : Nat) (a b : Nat → Int) :
    loopN (fun s K => codeK Try.prog K21 L0 B21 0 s K) (K21.ann 0).keep (K21.ann 0).out [] [] (L + 1) (S21 n m j (ivals a) (ivals b)) K =
    bif decide ((j : Int) < (n : Int)) then
      bif decide (0 ≤ (j : Int)) && decide ((j : Int) < (n : Int)) then
        bif decide (0 ≤ (j : Int)) && decide ((j : Int) < (m : Int)) then
          bif a j != b j then K .ret R21
          else loopN (fun s K => codeK Try.prog K21 L0 B21 0 s K) (K21.ann 0).keep (K21.ann 0).out [] [] L (S21 n m (IntKind.i64.wrap (j + 1)) (ivals a) (ivals b)) K
        else none
      else none
    else K (.exit 0) O21 := by kernel_rfl
/-- equal from j on -/
def eqFrom (a b : Nat → Int) : Nat → Nat → Bool
  | 0, _ => true
  | d + 1, j => bif a j != b j then false else eqFrom a b d (j + 1)
theorem eqFrom_iff {a b : Nat → Int} : ∀ {d j : Nat}, eqFrom a b d j = true ↔ ∀ i, j ≤ i → i < j + d → a i = b i
  | 0, j => by simp [eqFrom]; omega
  | d + 1, j => by
    unfold eqFrom
    by_cases h : a j = b j
    · have : (a j != b j) = false := by simpa using h
      rw [this, cond_false, eqFrom_iff (d := d)]
      constructor
      · intro hh i h1 h2
        by_cases e : i = j
        · subst e; exact h
        · exact hh i (by omega) (by omega)
      · intro hh i h1 h2
        exact hh i (by omega) (by omega)
    · have : (a j != b j) = true := by simpa using h
      rw [this, cond_true]
      constructor
      · intro hh; cases hh
      · intro hh; exact absurd (hh j (by omega) (by omega)) h
theorem loop21 {R : Type} (K : Ex → St → Option R) (L0 n : Nat) (hn : n ≤ 1073741824) (a b : Nat → Int) : ∀ (d j : Nat), j + d = n →
    loopN (fun s K => codeK Try.prog K21 L0 B21 0 s K) (K21.ann 0).keep (K21.ann 0).out [] [] (d + 1) (S21 n n j (ivals a) (ivals b)) K = cond (eqFrom a b d j) (K (.exit 0) O21) (K .ret R21)
  | 0, j, hj => by
    rw [round21, decide_eq_false (by omega)]; rfl
  | d + 1, j, hj => by
    rw [round21, decide_eq_true (show (j : Int) < (n : Int) by omega), decide_eq_true (show 0 ≤ (j : Int) by omega)]
    have c3 : IntKind.i64.wrap ((j : Int) + 1) = ((j + 1 : Nat) : Int) := by
      rw [wrap_id (by omega)]; simp
    rw [c3, loop21 K L0 n hn a b d (j + 1) (by omega)]
    conv => rhs; unfold eqFrom
    cases a j != b j <;> rfl
theorem same_from (n : Nat) (a b : Nat → Int) : sameM n (ivals a) n (ivals b) = eqFrom a b n 0 := by
  have h1 : sameM n (ivals a) n (ivals b) = eqUp a b n := by
    unfold sameM
    have : (n == n) = true := by simp
    rw [this, Bool.true_and]; rfl
  rw [h1]
  cases h : eqFrom a b n 0
  · cases h2 : eqUp a b n
    · rfl
    · rw [eqUp_iff] at h2
      have : eqFrom a b n 0 = true := eqFrom_iff.2 fun i _ hi => h2 i (by omega)
      rw [this] at h; cases h
  · rw [eqUp_iff]
    exact fun i hi => eqFrom_iff.1 h i (by omega) (by omega)
theorem loopOK21 : LoopOK Try.prog K21 0 B21 := by
  refine loopOK_of (sk := sk21) (G := G21) rfl ?_
  intro R x K v h
  unfold G21 at h
  split at h
  · rename_i n f m g l j
    simp only [pickK] at h
    cases hd : dec ((∃ a, f = ivals a) ∧ (∃ b, g = ivals b) ∧ l = n ∧ j = 0 ∧ n = m ∧ n ≤ 1073741824) <;> rw [hd] at h
    · simp at h
    · obtain ⟨⟨a, rfl⟩, ⟨b, rfl⟩, rfl, rfl, rfl, hn⟩ := of_dec hd
      refine ⟨n + 1, ?_⟩
      rw [← h, same_from]
      refine (loop21 K (n + 1) n hn a b n 0 (by omega)).trans ?_
      cases eqFrom a b n 0 <;> rfl
  · simp [pickK] at h
theorem sound21 {args : List TV} {v : TV} (h : funK Try.prog K21 0 21 args = some v) : PCall Try.prog 21 args v :=
  funK_sound_loops (fun f g h => by cases h) (fun t ht => by cases ht) mixed (fun p hp => by rw [loops21] at hp; simp at hp; subst hp; exact loopOK21) h
theorem k_same (n m : Nat) (a b : Nat → Int) (L : Nat) (hn : n ≤ 1073741824) : funK Try.prog K21 L 21 [.v false [.view n 1 (ivals a)], .v false [.view m 1 (ivals b)]] = some (.v false [.bool (sameM n (ivals a) m (ivals b))]) := by
  refine Eq.trans (b := bif ((n : Int) != (m : Int)) then some (.v false [.bool false]) else
    bif dec ((∃ a', ivals a = ivals a') ∧ (∃ b', ivals b = ivals b') ∧ (n : Int) = n ∧ (0 : Int) = 0 ∧ n = m ∧ n ≤ 1073741824) && sameM n (ivals a) m (ivals b) then some (.v false [.bool true]) else
    bif dec ((∃ a', ivals a = ivals a') ∧ (∃ b', ivals b = ivals b') ∧ (n : Int) = n ∧ (0 : Int) = 0 ∧ n = m ∧ n ≤ 1073741824) && !sameM n (ivals a) m (ivals b) then some (.v false [.bool false]) else none) (by kernel_rfl) ?_
  by_cases h : n = m
  · have e : ((n : Int) != (m : Int)) = false := by rw [h]; exact bne_self_eq_false _
    rw [e, dec_true ⟨⟨a, rfl⟩, ⟨b, rfl⟩, rfl, rfl, h, hn⟩]
    cases sameM n (ivals a) m (ivals b) <;> rfl
  · have e : ((n : Int) != (m : Int)) = true := by simp; omega
    rw [e]
    have : sameM n (ivals a) m (ivals b) = false := by
      unfold sameM
      have : (n == m) = false := by simpa using h
      rw [this, Bool.false_and]
    rw [this]; rfl
theorem eqUp_congr {a b a' b' : Nat → Int} : ∀ (n : Nat), (∀ i, i < n → a i = a' i) → (∀ i, i < n → b i = b' i) → eqUp a b n = eqUp a' b' n
  | 0, _, _ => rfl
  | n + 1, h1, h2 => by
    simp only [eqUp]
    rw [h1 n (by omega), h2 n (by omega), eqUp_congr n (fun i hi => h1 i (by omega)) (fun i hi => h2 i (by omega))]
theorem r_same : RowOK Try.prog (21, sSame) := RowOK.mk (by kernel_rfl) (fun args v h => by
  unfold sSame at h; split at h
  · rename_i n f m g
    simp only [Option.some.injEq, Prod.mk.injEq, Bool.and_eq_true] at h
    obtain ⟨⟨⟨h0, h1⟩, h2⟩, rfl⟩ := h
    have hn := Nat.le_of_ble_eq_true h0
    refine pcall_args2 (F' := ivals fun i => intAt (f i)) (G' := ivals fun i => intAt (g i)) (allInt_get h1) (allInt_get h2) ?_
    exact sound21 (k_same n m (fun i => intAt (f i)) (fun i => intAt (g i)) 0 hn)
  · cases h)

def T4 : List (Nat × (List TV → Option (Bool × TV))) := (20, sStop) :: (22, sStop) :: (21, sSame) :: T3
def K4 : Cfg := { spec := lookS T4, eqOk := [], ann := fun _ => ⟨none, none, []⟩ }
theorem all4 : AllOK Try.prog T4 := ⟨r_stop, r_stop', r_same, all3⟩
theorem sound4 {f : FuncId} {args : List TV} {v : TV} (h : funK Try.prog K4 0 f args = some v) : PCall Try.prog f args v := funK_sound (specOK_of rfl all4) (fun t ht => by cases ht) mixed rfl h
theorem r_awake : RowOK Try.prog (11, sTrue) := RowOK.mk (by kernel_rfl) (fun args v h => by
  unfold sTrue at h; split at h
  · cases h; exact sound4 (by kernel_rfl)
  · cases h)
def shortM (j k r v a : Int) : Bool := planM j k r && readyM j k v a && decide (v ≤ 16384) && decide (j ≤ 4000) && decide (k ≤ 4000)
def sShort : List TV → Option (Bool × TV)
  | [.v true [.int .i64 j, .int .i64 k, .int .i64 r], .v false [.int .i64 v], .v false [.int .i64 a]] => some (true, .v false [.bool (shortM j k r v a)])
  | _ => none
theorem k_short (j k r v a : Int) (L : Nat) : funK Try.prog K4 L 19 [Pl j k r, .v false [i64 v], .v false [i64 a]] = some (.v false [.bool (shortM j k r v a)]) := by
  refine Eq.trans (b := bif planM j k r then
    bif planM j k r then
      bif readyM j k v a then
        bif decide (v ≤ 16384) then
          bif decide (j ≤ 4000) then some (TV.v false [AC.bool (decide (k ≤ 4000))])
          else some (TV.v false [AC.bool false])
        else some (TV.v false [AC.bool false])
      else some (TV.v false [AC.bool false])
    else none
    else some (TV.v false [AC.bool false])) (by kernel_rfl) ?_
  unfold shortM
  cases planM j k r <;> cases readyM j k v a <;> cases decide (v ≤ 16384) <;> cases decide (j ≤ 4000) <;> cases decide (k ≤ 4000) <;> rfl
theorem r_short : RowOK Try.prog (19, sShort) := RowOK.mk (by kernel_rfl) (fun args v h => by
  unfold sShort at h; split at h
  · cases h; exact sound4 (k_short ..)
  · cases h)
def T5 : List (Nat × (List TV → Option (Bool × TV))) := (11, sTrue) :: (19, sShort) :: T4
def K5 : Cfg := { spec := lookS T5, eqOk := [], ann := fun _ => ⟨none, none, []⟩ }
theorem all5 : AllOK Try.prog T5 := ⟨r_awake, r_short, all4⟩
theorem sound5 {f : FuncId} {args : List TV} {v : TV} (h : funK Try.prog K5 0 f args = some v) : PCall Try.prog f args v := funK_sound (specOK_of rfl all5) (fun t ht => by cases ht) mixed rfl h
end Go.Am
