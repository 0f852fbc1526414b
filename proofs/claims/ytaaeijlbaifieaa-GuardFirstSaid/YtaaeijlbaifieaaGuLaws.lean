/- Layer 39's two loops over events, and what their laws answer. -/
import Derived.Test.YtaaeijlbaifieaaGuSpec
namespace Go.Am
open Go.Proofs

def Gd.eq (p q : Gd) : Bool := p.s == q.s && (p.f == q.f && (p.x == q.x && true))
theorem Gd.eq_self (p : Gd) : p.eq p = true := by simp [Gd.eq]
def ev (f : Nat → List AC) (j i : Nat) : Int := match nth .dead (f j) i with
  | .int _ n => n
  | _ => 0
def evs (gi : Nat → Nat → Int) (i : Nat) : List AC := [i64 (gi i 0), i64 (gi i 1), i64 (gi i 2)]

/-! ### GuardApply -/
def kA (j : Nat) (k : Int) : Int := bif ((j : Int).tmod 2 == 0) then usK k else k
def nA (j : Nat) (n : Int) : Int := bif ((j : Int).tmod 2 == 0) then usN n else n
def Gd.run (f : Nat → List AC) (p : Gd) : Nat → Gd
  | 0 => p
  | j + 1 => (Gd.run f p j).ap (kA j (ev f j 1)) (nA j (ev f j 2))
def sk3 : Sk := ⟨mkT 56 0 [(5, false, 1), (6, false, 1), (7, false, 1), (8, false, 1), (20, false, 1), (21, false, 1), (22, false, 1)], [(2, 24, 3), (5, 24, 3), (6, 24, 3), (7, 24, 3), (8, 24, 3)]⟩
def sko3 : Sk := ⟨mkT 56 0 [(5, false, 1), (6, false, 1)], [(2, 24, 3), (5, 24, 3), (6, 24, 3), (7, 24, 3), (8, 24, 3)]⟩
def S3 (n : Nat) (f : Nat → List AC) (m j : Int) (o A C : Gd) : St :=
  buildSk sk3 ([.ptr 5 0, .ptr 6 0, .ptr 7 0, .ptr 8 0, .view n 3 f, i64 m, i64 j] ++ (o.cells ++ (A.cells ++ (A.cells ++ (C.cells ++ C.cells)))))
def O3 (o A C : Gd) : St := buildSk sko3 ([.ptr 5 0, .ptr 6 0] ++ (o.cells ++ (A.cells ++ (A.cells ++ (C.cells ++ C.cells)))))
noncomputable def G3 : List AC → List (Bool × Ex × St)
  | .ptr 5 0 :: .ptr 6 0 :: .ptr 7 0 :: .ptr 8 0 :: .view n 3 f :: .int .i64 m :: .int .i64 j :: .int .i64 os :: .int .i64 of :: .int .i64 ox :: .int .i64 as1 :: .int .i64 af :: .int .i64 ax :: .int .i64 bs :: .int .i64 bf :: .int .i64 bx ::
      .int .i64 cs :: .int .i64 cf :: .int .i64 cx :: .int .i64 ds :: .int .i64 df :: .int .i64 dx :: [] =>
    [(dec ((∃ gi, f = evs gi) ∧ m = n ∧ j = 0 ∧ n ≤ 60 ∧ (⟨as1, af, ax⟩ : Gd) = ⟨bs, bf, bx⟩ ∧ (⟨cs, cf, cx⟩ : Gd) = ⟨ds, df, dx⟩), .exit 0, O3 ⟨os, of, ox⟩ (Gd.run f ⟨as1, af, ax⟩ n) (Gd.run f ⟨cs, cf, cx⟩ n))]
  | _ => []
noncomputable def K3 : Cfg := { spec := lookS T3, eqOk := [24], ann := fun _ => ⟨some [5, 6, 7, 8, 20, 21, 22], some [5, 6], []⟩, lspec := fun b => bif Nat.beq b 0 then some (specSk sk3 G3) else none }
noncomputable def B3 : Code := loopAt (fnLoops Try.prog 3) 0
theorem loops3 : fnLoops Try.prog 3 = [(0, B3)] := by kernel_rfl

def end3 {R : Type} (K : Ex → St → Option R) (o A C : Gd) (go : Option R) : Option R :=
  bif !(A.eq A) then K .ret (O3 o A C) else bif !(C.eq C) then K .ret (O3 o A C) else go
theorem end3_eq {R : Type} (K : Ex → St → Option R) (o A C : Gd) (go : Option R) : end3 K o A C go = go := by
  unfold end3; rw [Gd.eq_self, Gd.eq_self]; rfl

theorem round3 {R : Type} (K : Ex → St → Option R) (n j L0 L : Nat) (gi : Nat → Nat → Int) (m : Int) (o A C : Gd) :
    loopN (fun s K => codeK Try.prog K3 L0 B3 0 s K) (K3.ann 0).keep (K3.ann 0).out [2, 5, 6, 7, 8] [] (L + 1) (S3 n (evs gi) m j o A C) K =
    bif decide ((j : Int) < m) then
      bif decide (0 ≤ (j : Int)) && decide ((j : Int) < (n : Int)) then
        bif (j : Int).tmod 2 == 0 then
          end3 K o (A.ap (usK (gi j 1)) (usN (gi j 2))) (C.ap (usK (gi j 1)) (usN (gi j 2)))
            (loopN (fun s K => codeK Try.prog K3 L0 B3 0 s K) (K3.ann 0).keep (K3.ann 0).out [2, 5, 6, 7, 8] [] L
              (S3 n (evs gi) m (IntKind.i64.wrap (j + 1)) o (A.ap (usK (gi j 1)) (usN (gi j 2))) (C.ap (usK (gi j 1)) (usN (gi j 2)))) K)
        else
          end3 K o (A.ap (gi j 1) (gi j 2)) (C.ap (gi j 1) (gi j 2))
            (loopN (fun s K => codeK Try.prog K3 L0 B3 0 s K) (K3.ann 0).keep (K3.ann 0).out [2, 5, 6, 7, 8] [] L
              (S3 n (evs gi) m (IntKind.i64.wrap (j + 1)) o (A.ap (gi j 1) (gi j 2)) (C.ap (gi j 1) (gi j 2))) K)
      else none
    else K (.exit 0) (O3 o A C) := by kernel_rfl

theorem loop3 {R : Type} (K : Ex → St → Option R) (n : Nat) (hn : n ≤ 60) (L0 : Nat) (gi : Nat → Nat → Int) (o A C : Gd) :
    ∀ (d j : Nat), j + d = n →
      loopN (fun s K => codeK Try.prog K3 L0 B3 0 s K) (K3.ann 0).keep (K3.ann 0).out [2, 5, 6, 7, 8] [] (d + 1) (S3 n (evs gi) n j o (Gd.run (evs gi) A j) (Gd.run (evs gi) C j)) K =
        K (.exit 0) (O3 o (Gd.run (evs gi) A n) (Gd.run (evs gi) C n))
  | 0, j, hj => by
    rw [round3]
    have e : j = n := by omega
    subst e
    have : decide ((j : Int) < (j : Int)) = false := by simp
    rw [this]; rfl
  | d + 1, j, hj => by
    rw [round3]
    have c1 : decide ((j : Int) < (n : Int)) = true := by simp; omega
    have c2 : decide (0 ≤ (j : Int)) = true := by simp
    have c3 : IntKind.i64.wrap ((j : Int) + 1) = ((j + 1 : Nat) : Int) := by
      rw [wrap_id (by omega)]; simp
    have r1 : ∀ p : Gd, Gd.run (evs gi) p (j + 1) = (Gd.run (evs gi) p j).ap (kA j (gi j 1)) (nA j (gi j 2)) := fun _ => rfl
    have ih := loop3 K n hn L0 gi o A C d (j + 1) (by omega)
    rw [c1, c2, c3, end3_eq, end3_eq]
    rw [r1, r1] at ih
    unfold kA nA at ih
    cases hp : ((j : Int).tmod 2 == 0) <;> rw [hp] at ih <;> simp only [cond_true, cond_false] at ih <;> simp only [Bool.and_self, cond_true, cond_false] <;> exact ih

theorem loopOK3 : LoopOK Try.prog K3 0 B3 := by
  refine loopOK_of (sk := sk3) (G := G3) rfl ?_
  intro R l K v h
  unfold G3 at h
  split at h
  · rename_i n f m j os of ox as1 af ax bs bf bx cs cf cx ds df dx
    simp only [pickK] at h
    cases hd : dec ((∃ gi, f = evs gi) ∧ m = n ∧ j = 0 ∧ n ≤ 60 ∧ (⟨as1, af, ax⟩ : Gd) = ⟨bs, bf, bx⟩ ∧ (⟨cs, cf, cx⟩ : Gd) = ⟨ds, df, dx⟩) <;> rw [hd] at h
    · simp at h
    · simp only [cond_true] at h
      obtain ⟨⟨gi, rfl⟩, rfl, rfl, hn, e1, e2⟩ := of_dec hd
      simp only [Gd.mk.injEq] at e1 e2
      obtain ⟨rfl, rfl, rfl⟩ := e1
      obtain ⟨rfl, rfl, rfl⟩ := e2
      refine ⟨n + 1, ?_⟩
      rw [← h]
      exact loop3 K n hn (n + 1) gi ⟨os, of, ox⟩ ⟨as1, af, ax⟩ ⟨cs, cf, cx⟩ n 0 (by omega)
  · simp [pickK] at h
theorem sound3 {args : List TV} {v : TV} (h : funK Try.prog K3 0 3 args = some v) : PCall Try.prog 3 args v :=
  funK_sound_loops (specOK_of rfl all3) eq24 mixed (fun p hp => by rw [loops3] at hp; simp at hp; subst hp; exact loopOK3) h
theorem law_apply (n : Nat) (gi : Nat → Nat → Int) (s f x : Int) (L : Nat) : funK Try.prog K3 L 3 [Gd.tv ⟨s, f, x⟩, .v false [.view n 3 (evs gi)]] = some (.v false [.bool true]) := by
  refine Eq.trans (b := bif decide ((n : Int) > 60) then some (TV.v false [AC.bool true]) else
    bif dec ((∃ gi', evs gi = evs gi') ∧ (n : Int) = n ∧ (0 : Int) = 0 ∧ n ≤ 60 ∧ startM = startM ∧ (⟨s, f, x⟩ : Gd) = ⟨s, f, x⟩) then
      some (TV.v false [AC.bool ((Gd.run (evs gi) startM n).eq (Gd.run (evs gi) startM n))])
    else none) (by kernel_rfl) ?_
  by_cases hn : n ≤ 60
  · have h1 : decide ((n : Int) > 60) = false := by simp; omega
    rw [h1, dec_true ⟨⟨gi, rfl⟩, rfl, rfl, hn, rfl, rfl⟩, Gd.eq_self]
    simp
  · have h1 : decide ((n : Int) > 60) = true := by simp; omega
    rw [h1]; rfl

/-! ### GuardFirst -/
def Gd.runU (f : Nat → List AC) (p : Gd) : Nat → Gd
  | 0 => p
  | j + 1 => (Gd.runU f p j).ap (usK (ev f j 1)) (usN (ev f j 2))
def sk4 : Sk := ⟨mkT 75 0 [(3, false, 1), (13, false, 1), (14, false, 1), (15, false, 1)], [(3, 24, 3)]⟩
def sko4 : Sk := ⟨mkT 75 0 [], [(3, 24, 3)]⟩
def S4 (n : Nat) (f : Nat → List AC) (m j : Int) (g : Gd) : St := buildSk sk4 ([.ptr 3 0, .view n 3 f, i64 m, i64 j] ++ g.cells)
def O4 (g : Gd) : St := buildSk sko4 g.cells
def inv4 (g : Gd) : Prop := (g.s = 0 ∧ g.f = 0) ∨ (g.s = 1 ∧ g.f ≠ 0) ∨ (g.s = 2 ∧ g.f ≠ 0)
noncomputable def G4 : List AC → List (Bool × Ex × St)
  | .ptr 3 0 :: .view n 3 f :: .int .i64 m :: .int .i64 j :: .int .i64 s :: .int .i64 e :: .int .i64 x :: [] =>
    [(dec ((∃ gi, f = evs gi) ∧ m = n ∧ j = 0 ∧ n ≤ 60 ∧ inv4 ⟨s, e, x⟩), .exit 0, O4 (Gd.runU f ⟨s, e, x⟩ n))]
  | _ => []
noncomputable def K4 : Cfg := { spec := lookS T3, eqOk := [24], ann := fun _ => ⟨some [3, 13, 14, 15], some [], []⟩, lspec := fun b => bif Nat.beq b 0 then some (specSk sk4 G4) else none }
noncomputable def B4 : Code := loopAt (fnLoops Try.prog 4) 0
theorem loops4 : fnLoops Try.prog 4 = [(0, B4)] := by kernel_rfl

section
variable {R : Type}
def w4 (g : Gd) (ret fin : Option R) : Option R := bif g.s != 0 then bif !((g.check 0 9 0 0 0 0 0).eq g) then ret else fin else fin
def w3 (g g' : Gd) (k : Int) (ret fin : Option R) : Option R := bif g.s == 2 then bif k != 11 then bif g'.s != 2 then ret else w4 g ret fin else w4 g ret fin else w4 g ret fin
def w2 (g g' : Gd) (k : Int) (ret fin : Option R) : Option R :=
  bif g.f != 0 then bif k != 11 then bif k != 10 then bif !(g'.eq g) then ret else w3 g g' k ret fin else w3 g g' k ret fin else w3 g g' k ret fin else w3 g g' k ret fin
def w1 (g g' : Gd) (k : Int) (ret fin : Option R) : Option R := bif !((g'.s == 0) == (g'.f == 0)) then ret else w2 g g' k ret fin
end
theorem round4 {R : Type} (K : Ex → St → Option R) (n j L0 L : Nat) (gi : Nat → Nat → Int) (m : Int) (g : Gd) :
    loopN (fun s K => codeK Try.prog K4 L0 B4 0 s K) (K4.ann 0).keep (K4.ann 0).out [3] [] (L + 1) (S4 n (evs gi) m j g) K =
    bif decide ((j : Int) < m) then
      bif decide (0 ≤ (j : Int)) && decide ((j : Int) < (n : Int)) then
        w1 g (g.ap (usK (gi j 1)) (usN (gi j 2))) (usK (gi j 1)) (K .ret (O4 (g.ap (usK (gi j 1)) (usN (gi j 2)))))
          (loopN (fun s K => codeK Try.prog K4 L0 B4 0 s K) (K4.ann 0).keep (K4.ann 0).out [3] [] L (S4 n (evs gi) m (IntKind.i64.wrap (j + 1)) (g.ap (usK (gi j 1)) (usN (gi j 2)))) K)
      else none
    else K (.exit 0) (O4 g) := by kernel_rfl

theorem stop_cases (g : Gd) (e ax : Int) : (g.s = 2 ∧ g.stop e ax = g) ∨ (g.s ≠ 2 ∧ g.f = 0 ∧ g.stop e ax = ⟨1, e, ax⟩) ∨ (g.s ≠ 2 ∧ g.f ≠ 0 ∧ g.stop e ax = ⟨1, g.f, g.x⟩) := by
  unfold Gd.stop
  by_cases h : g.s = 2
  · have b1 : (g.s == 2) = true := by simpa using h
    rw [b1]; exact .inl ⟨h, rfl⟩
  · have b1 : (g.s == 2) = false := by simpa using h
    rw [b1]
    by_cases h2 : g.f = 0
    · have b2 : (g.f == 0) = true := by simpa using h2
      rw [b2]; exact .inr (.inl ⟨h, h2, rfl⟩)
    · have b2 : (g.f == 0) = false := by simpa using h2
      rw [b2]; exact .inr (.inr ⟨h, h2, rfl⟩)
theorem ap_cases (g : Gd) (k n : Int) : (k = 10 ∧ g.ap k n = ⟨2, 22, -1⟩) ∨ (k ≠ 10 ∧ k ≠ 11 ∧ ∃ e ax, e ≠ 0 ∧ g.ap k n = g.stop e ax) ∨ (k = 11 ∧ g.ap k n = startM) ∨ (k ≠ 10 ∧ k ≠ 11 ∧ g.ap k n = g) := by
  by_cases h1 : k = 10
  · left; subst h1; exact ⟨rfl, rfl⟩
  · by_cases h2 : k = 11
    · right; right; left; subst h2; exact ⟨rfl, rfl⟩
    · unfold Gd.ap
      by_cases h3 : k = 9
      · right; left; subst h3; exact ⟨h1, h2, 21, -1, by omega, rfl⟩
      · by_cases h4 : k = 8
        · cases hc : (decide (0 ≤ n) && decide (n ≤ 2))
          · right; right; right; subst h4; exact ⟨h1, h2, rfl⟩
          · right; left; subst h4; exact ⟨h1, h2, 20, n, by omega, rfl⟩
        · right; right; right
          have f1 : (k == 10) = false := by simpa using h1
          have f2 : (k == 11) = false := by simpa using h2
          have f3 : (k == 9) = false := by simpa using h3
          have f4 : (k == 8) = false := by simpa using h4
          rw [f1, f2, f3, f4]; exact ⟨h1, h2, rfl⟩
theorem inv_ap {g : Gd} (h : inv4 g) (k n : Int) : inv4 (g.ap k n) := by
  unfold inv4 at h ⊢
  rcases ap_cases g k n with ⟨_, e⟩ | ⟨_, _, a, b, ha, e⟩ | ⟨_, e⟩ | ⟨_, _, e⟩
  · rw [e]; simp
  · rw [e]
    rcases stop_cases g a b with ⟨_, e2⟩ | ⟨_, _, e2⟩ | ⟨_, h3, e2⟩
    · rw [e2]; exact h
    · rw [e2]; simp [ha]
    · rw [e2]; simp [h3]
  · rw [e]; simp [startM]
  · rw [e]; exact h

theorem w4_eq {R : Type} {g : Gd} {ret fin : Option R} : w4 g ret fin = fin := by
  unfold w4 Gd.check
  cases h : g.s != 0
  · rfl
  · simp only [cond_true, Gd.eq_self, Bool.not_true, cond_false]
theorem w1_eq {R : Type} {g : Gd} (hi : inv4 g) {k n : Int} {ret fin : Option R} : w1 g (g.ap k n) k ret fin = fin := by
  have h1 : ((g.ap k n).s == 0) == ((g.ap k n).f == 0) := by
    rcases inv_ap hi k n with ⟨a, b⟩ | ⟨a, b⟩ | ⟨a, b⟩ <;> simp [a, b]
  have h3 : w3 g (g.ap k n) k ret fin = fin := by
    unfold w3
    rw [w4_eq]
    by_cases hs : g.s = 2
    · by_cases hk : k = 11
      · cases g.s == 2 <;> simp [hk]
      · have : (g.ap k n).s = 2 := by
          rcases ap_cases g k n with ⟨_, e⟩ | ⟨_, _, a, b, ha, e⟩ | ⟨e0, _⟩ | ⟨_, _, e⟩
          · rw [e]
          · rw [e]
            rcases stop_cases g a b with ⟨_, e2⟩ | ⟨h0, _⟩ | ⟨h0, _⟩
            · rw [e2]; exact hs
            · exact absurd hs h0
            · exact absurd hs h0
          · exact absurd e0 hk
          · rw [e]; exact hs
        rw [this]
        cases g.s == 2 <;> cases k != 11 <;> rfl
    · have b1 : (g.s == 2) = false := by simpa using hs
      rw [b1]; rfl
  have h2 : w2 g (g.ap k n) k ret fin = fin := by
    unfold w2
    rw [h3]
    by_cases hf : g.f = 0
    · have b1 : (g.f != 0) = false := by simpa using hf
      rw [b1]; rfl
    · by_cases hk : k = 11
      · have b1 : (k != 11) = false := by simpa using hk
        rw [b1]; cases g.f != 0 <;> rfl
      · by_cases hk2 : k = 10
        · have b1 : (k != 10) = false := by simpa using hk2
          rw [b1]; cases g.f != 0 <;> cases k != 11 <;> rfl
        · have : g.ap k n = g := by
            rcases ap_cases g k n with ⟨e0, _⟩ | ⟨_, _, a, b, ha, e⟩ | ⟨e0, _⟩ | ⟨_, _, e⟩
            · exact absurd e0 hk2
            · rw [e]
              rcases stop_cases g a b with ⟨_, e2⟩ | ⟨_, h0, _⟩ | ⟨h0, _, e2⟩
              · exact e2
              · exact absurd h0 hf
              · rw [e2]
                rcases hi with ⟨_, h0⟩ | ⟨h1, _⟩ | ⟨h1, _⟩
                · exact absurd h0 hf
                · cases g; simp at h1 ⊢; exact h1.symm
                · exact absurd h1 h0
            · exact absurd e0 hk
            · exact e
          rw [this, Gd.eq_self]
          cases g.f != 0 <;> cases k != 11 <;> cases k != 10 <;> rfl
  unfold w1
  rw [h1, h2]; rfl

theorem loop4 {R : Type} (K : Ex → St → Option R) (n : Nat) (hn : n ≤ 60) (L0 : Nat) (gi : Nat → Nat → Int) (g : Gd) :
    ∀ (d j : Nat), j + d = n → inv4 (Gd.runU (evs gi) g j) →
      loopN (fun s K => codeK Try.prog K4 L0 B4 0 s K) (K4.ann 0).keep (K4.ann 0).out [3] [] (d + 1) (S4 n (evs gi) n j (Gd.runU (evs gi) g j)) K = K (.exit 0) (O4 (Gd.runU (evs gi) g n))
  | 0, j, hj, hi => by
    rw [round4]
    have e : j = n := by omega
    subst e
    have : decide ((j : Int) < (j : Int)) = false := by simp
    rw [this]; rfl
  | d + 1, j, hj, hi => by
    rw [round4]
    have c1 : decide ((j : Int) < (n : Int)) = true := by simp; omega
    have c2 : decide (0 ≤ (j : Int)) = true := by simp
    have c3 : IntKind.i64.wrap ((j : Int) + 1) = ((j + 1 : Nat) : Int) := by
      rw [wrap_id (by omega)]; simp
    have r1 : Gd.runU (evs gi) g (j + 1) = (Gd.runU (evs gi) g j).ap (usK (gi j 1)) (usN (gi j 2)) := rfl
    have ih := loop4 K n hn L0 gi g d (j + 1) (by omega) (by rw [r1]; exact inv_ap hi _ _)
    rw [c1, c2, c3, w1_eq hi]
    rw [r1] at ih
    simp only [Bool.and_self, cond_true]
    exact ih

theorem loopOK4 : LoopOK Try.prog K4 0 B4 := by
  refine loopOK_of (sk := sk4) (G := G4) rfl ?_
  intro R l K v h
  unfold G4 at h
  split at h
  · rename_i n f m j s e x
    simp only [pickK] at h
    cases hd : dec ((∃ gi, f = evs gi) ∧ m = n ∧ j = 0 ∧ n ≤ 60 ∧ inv4 ⟨s, e, x⟩) <;> rw [hd] at h
    · simp at h
    · simp only [cond_true] at h
      obtain ⟨⟨gi, rfl⟩, rfl, rfl, hn, hi⟩ := of_dec hd
      refine ⟨n + 1, ?_⟩
      rw [← h]
      exact loop4 K n hn (n + 1) gi ⟨s, e, x⟩ n 0 (by omega) hi
  · simp [pickK] at h
theorem sound4 {args : List TV} {v : TV} (h : funK Try.prog K4 0 4 args = some v) : PCall Try.prog 4 args v :=
  funK_sound_loops (specOK_of rfl all3) eq24 mixed (fun p hp => by rw [loops4] at hp; simp at hp; subst hp; exact loopOK4) h
theorem law_first (n : Nat) (gi : Nat → Nat → Int) (L : Nat) : funK Try.prog K4 L 4 [.v false [.view n 3 (evs gi)]] = some (.v false [.bool true]) := by
  refine Eq.trans (b := bif decide ((n : Int) > 60) then some (TV.v false [AC.bool true]) else
    bif dec ((∃ gi', evs gi = evs gi') ∧ (n : Int) = n ∧ (0 : Int) = 0 ∧ n ≤ 60 ∧ inv4 startM) then some (TV.v false [AC.bool true]) else none) (by kernel_rfl) ?_
  by_cases hn : n ≤ 60
  · have h1 : decide ((n : Int) > 60) = false := by simp; omega
    rw [h1, dec_true ⟨⟨gi, rfl⟩, rfl, rfl, hn, .inl ⟨rfl, rfl⟩⟩]
    rfl
  · have h1 : decide ((n : Int) > 60) = true := by simp; omega
    rw [h1]; rfl
end Go.Am
