/- Layer 35's loop over events: the panel of the program and that of the document go alike. -/
import Derived.Test.YticldimccdceaaaOvLaws
namespace Go.Am
open Go.Proofs

structure Pan where
  a : Int
  b : Int
  c : Bool
  d : Bool
  e : Bool
def Pan.cells (p : Pan) : List AC := [i64 p.a, i64 p.b, .bool p.c, .bool p.d, .bool p.e]
def Pan.ap (p : Pan) (k n : Int) : Pan := ⟨apA p.a k n, apB p.b k n, apC p.c k, apD p.d k n, apE p.e k n⟩
def Pan.eq (p q : Pan) : Bool := p.a == q.a && (p.b == q.b && (p.c == q.c && (p.d == q.d && (p.e == q.e && true))))
theorem Pan.eq_self (p : Pan) : p.eq p = true := by simp [Pan.eq]
def newP : Pan := ⟨100, 100, false, false, false⟩
noncomputable def dec (p : Prop) : Bool := @decide p (Classical.propDecidable p)
theorem dec_true {p : Prop} (h : p) : dec p = true := @decide_eq_true p (Classical.propDecidable p) h
theorem of_dec {p : Prop} (h : dec p = true) : p := @of_decide_eq_true p (Classical.propDecidable p) h
def mkT : Nat → Nat → List (Nat × Bool × Nat) → List (Option (Bool × Nat))
  | 0, _, _ => []
  | n + 1, i, l => look l i :: mkT n (i + 1) l
def ev (f : Nat → List AC) (j i : Nat) : Int := match nth .dead (f j) i with
  | .int _ n => n
  | _ => 0
def evs (gi : Nat → Nat → Int) (i : Nat) : List AC := [i64 (gi i 0), i64 (gi i 1), i64 (gi i 2)]
def knd (j : Nat) (k : Int) : Int := bif ((j : Int).tmod 2 == 0) then (IntKind.i64.wrap (k.tmod 14 + 14)).tmod 14 else k
def num (j : Nat) (n : Int) : Int := bif ((j : Int).tmod 2 == 0) then IntKind.i64.wrap ((IntKind.i64.wrap (n.tmod 230 + 230)).tmod 230 - 5) else n
def Pan.run (f : Nat → List AC) (p : Pan) : Nat → Pan
  | 0 => p
  | j + 1 => (Pan.run f p j).ap (knd j (ev f j 1)) (num j (ev f j 2))

def sk7 : Sk := ⟨mkT 79 0 [(2, false, 1), (5, false, 1), (6, false, 1), (7, false, 1), (8, false, 1), (20, false, 1), (21, false, 1), (22, false, 1)], [(2, 23, 5), (5, 23, 5), (6, 23, 5), (7, 23, 5), (8, 23, 5)]⟩
def sko7 : Sk := ⟨mkT 79 0 [(2, false, 1), (5, false, 1), (6, false, 1)], [(2, 23, 5), (5, 23, 5), (6, 23, 5), (7, 23, 5), (8, 23, 5)]⟩
def S7 (n : Nat) (f : Nat → List AC) (m j : Int) (o A C : Pan) : St :=
  buildSk sk7 ([.ptr 2 0, .ptr 5 0, .ptr 6 0, .ptr 7 0, .ptr 8 0, .view n 3 f, i64 m, i64 j] ++ (o.cells ++ (A.cells ++ (A.cells ++ (C.cells ++ C.cells)))))
def O7 (o A C : Pan) : St :=
  buildSk sko7 ([.ptr 2 0, .ptr 5 0, .ptr 6 0] ++ (o.cells ++ (A.cells ++ (A.cells ++ (C.cells ++ C.cells)))))
noncomputable def G7 : List AC → List (Bool × Ex × St)
  | .ptr 2 0 :: .ptr 5 0 :: .ptr 6 0 :: .ptr 7 0 :: .ptr 8 0 :: .view n 3 f :: .int .i64 m :: .int .i64 j :: .int .i64 oa :: .int .i64 ob :: .bool oc :: .bool od :: .bool oe :: .int .i64 aa :: .int .i64 ab :: .bool ac :: .bool ad :: .bool ae :: .int .i64 ba :: .int .i64 bb :: .bool bc :: .bool bd :: .bool be :: .int .i64 ca :: .int .i64 cb :: .bool cc :: .bool cd :: .bool ce :: .int .i64 da :: .int .i64 db :: .bool dc :: .bool dd :: .bool de :: [] =>
    [(dec ((∃ gi, f = evs gi) ∧ m = n ∧ j = 0 ∧ n ≤ 60 ∧ validM aa ab = true ∧ (⟨aa, ab, ac, ad, ae⟩ : Pan) = ⟨ba, bb, bc, bd, be⟩ ∧ (⟨ca, cb, cc, cd, ce⟩ : Pan) = ⟨da, db, dc, dd, de⟩), .exit 0,
      O7 ⟨oa, ob, oc, od, oe⟩ (Pan.run f ⟨aa, ab, ac, ad, ae⟩ n) (Pan.run f ⟨ca, cb, cc, cd, ce⟩ n))]
  | _ => []
noncomputable def K7 : Cfg := { spec := lookS T3, eqOk := [23], ann := fun _ => ⟨some [2, 5, 6, 7, 8, 20, 21, 22], some [2, 5, 6], []⟩, lspec := fun b => bif Nat.beq b 0 then some (specSk sk7 G7) else none }
noncomputable def B7 : Code := loopAt (fnLoops Try.prog 7) 0
theorem loops7 : fnLoops Try.prog 7 = [(0, B7)] := by kernel_rfl

theorem round7 {R : Type} (K : Ex → St → Option R) (n j L0 L : Nat) (gi : Nat → Nat → Int) (m : Int) (o A C : Pan) :
    loopN (fun s K => codeK Try.prog K7 L0 B7 0 s K) (K7.ann 0).keep (K7.ann 0).out [2, 5, 6, 7, 8] [] (L + 1) (S7 n (evs gi) m j o A C) K =
    bif decide ((j : Int) < m) then
      bif decide (0 ≤ (j : Int)) && decide ((j : Int) < (n : Int)) then
        bif (j : Int).tmod 2 == 0 then
          bif !((A.ap ((IntKind.i64.wrap ((gi j 1).tmod 14 + 14)).tmod 14) (IntKind.i64.wrap ((IntKind.i64.wrap ((gi j 2).tmod 230 + 230)).tmod 230 - 5))).eq (A.ap ((IntKind.i64.wrap ((gi j 1).tmod 14 + 14)).tmod 14) (IntKind.i64.wrap ((IntKind.i64.wrap ((gi j 2).tmod 230 + 230)).tmod 230 - 5)))) then
            K .ret (O7 o (A.ap ((IntKind.i64.wrap ((gi j 1).tmod 14 + 14)).tmod 14) (IntKind.i64.wrap ((IntKind.i64.wrap ((gi j 2).tmod 230 + 230)).tmod 230 - 5))) (C.ap ((IntKind.i64.wrap ((gi j 1).tmod 14 + 14)).tmod 14) (IntKind.i64.wrap ((IntKind.i64.wrap ((gi j 2).tmod 230 + 230)).tmod 230 - 5))))
          else bif !((C.ap ((IntKind.i64.wrap ((gi j 1).tmod 14 + 14)).tmod 14) (IntKind.i64.wrap ((IntKind.i64.wrap ((gi j 2).tmod 230 + 230)).tmod 230 - 5))).eq (C.ap ((IntKind.i64.wrap ((gi j 1).tmod 14 + 14)).tmod 14) (IntKind.i64.wrap ((IntKind.i64.wrap ((gi j 2).tmod 230 + 230)).tmod 230 - 5)))) then
            K .ret (O7 o (A.ap ((IntKind.i64.wrap ((gi j 1).tmod 14 + 14)).tmod 14) (IntKind.i64.wrap ((IntKind.i64.wrap ((gi j 2).tmod 230 + 230)).tmod 230 - 5))) (C.ap ((IntKind.i64.wrap ((gi j 1).tmod 14 + 14)).tmod 14) (IntKind.i64.wrap ((IntKind.i64.wrap ((gi j 2).tmod 230 + 230)).tmod 230 - 5))))
          else bif !(validM (A.ap ((IntKind.i64.wrap ((gi j 1).tmod 14 + 14)).tmod 14) (IntKind.i64.wrap ((IntKind.i64.wrap ((gi j 2).tmod 230 + 230)).tmod 230 - 5))).a (A.ap ((IntKind.i64.wrap ((gi j 1).tmod 14 + 14)).tmod 14) (IntKind.i64.wrap ((IntKind.i64.wrap ((gi j 2).tmod 230 + 230)).tmod 230 - 5))).b) then
            K .ret (O7 o (A.ap ((IntKind.i64.wrap ((gi j 1).tmod 14 + 14)).tmod 14) (IntKind.i64.wrap ((IntKind.i64.wrap ((gi j 2).tmod 230 + 230)).tmod 230 - 5))) (C.ap ((IntKind.i64.wrap ((gi j 1).tmod 14 + 14)).tmod 14) (IntKind.i64.wrap ((IntKind.i64.wrap ((gi j 2).tmod 230 + 230)).tmod 230 - 5))))
          else loopN (fun s K => codeK Try.prog K7 L0 B7 0 s K) (K7.ann 0).keep (K7.ann 0).out [2, 5, 6, 7, 8] [] L
            (S7 n (evs gi) m (IntKind.i64.wrap (j + 1)) o (A.ap ((IntKind.i64.wrap ((gi j 1).tmod 14 + 14)).tmod 14) (IntKind.i64.wrap ((IntKind.i64.wrap ((gi j 2).tmod 230 + 230)).tmod 230 - 5))) (C.ap ((IntKind.i64.wrap ((gi j 1).tmod 14 + 14)).tmod 14) (IntKind.i64.wrap ((IntKind.i64.wrap ((gi j 2).tmod 230 + 230)).tmod 230 - 5)))) K
        else
          bif !((A.ap (gi j 1) (gi j 2)).eq (A.ap (gi j 1) (gi j 2))) then K .ret (O7 o (A.ap (gi j 1) (gi j 2)) (C.ap (gi j 1) (gi j 2)))
          else bif !((C.ap (gi j 1) (gi j 2)).eq (C.ap (gi j 1) (gi j 2))) then K .ret (O7 o (A.ap (gi j 1) (gi j 2)) (C.ap (gi j 1) (gi j 2)))
          else bif !(validM (A.ap (gi j 1) (gi j 2)).a (A.ap (gi j 1) (gi j 2)).b) then K .ret (O7 o (A.ap (gi j 1) (gi j 2)) (C.ap (gi j 1) (gi j 2)))
          else loopN (fun s K => codeK Try.prog K7 L0 B7 0 s K) (K7.ann 0).keep (K7.ann 0).out [2, 5, 6, 7, 8] [] L
            (S7 n (evs gi) m (IntKind.i64.wrap (j + 1)) o (A.ap (gi j 1) (gi j 2)) (C.ap (gi j 1) (gi j 2))) K
      else none
    else K (.exit 0) (O7 o A C) := by kernel_rfl

theorem ap_valid {A : Pan} {k n : Int} (h : validM A.a A.b = true) : validM (A.ap k n).a (A.ap k n).b = true := by
  simp only [validM, Bool.and_eq_true, decide_eq_true_eq] at h ⊢
  simp only [Pan.ap, apA, apB]
  cases h1 : (k == 1 && decide (0 ≤ n) && decide (n ≤ 200)) <;> cases h2 : (k == 2 && decide (0 ≤ n) && decide (n ≤ 100)) <;> simp only [cond_true, cond_false]
  · exact h
  · simp at h2; omega
  · simp at h1; omega
  · simp at h1 h2; omega

theorem loop7 {R : Type} (K : Ex → St → Option R) (n : Nat) (hn : n ≤ 60) (L0 : Nat) (gi : Nat → Nat → Int) (o A C : Pan) (hA : validM A.a A.b = true) :
    ∀ (d j : Nat), j + d = n → validM (Pan.run (evs gi) A j).a (Pan.run (evs gi) A j).b = true →
      loopN (fun s K => codeK Try.prog K7 L0 B7 0 s K) (K7.ann 0).keep (K7.ann 0).out [2, 5, 6, 7, 8] [] (d + 1) (S7 n (evs gi) n j o (Pan.run (evs gi) A j) (Pan.run (evs gi) C j)) K =
        K (.exit 0) (O7 o (Pan.run (evs gi) A n) (Pan.run (evs gi) C n))
  | 0, j, hj, hv => by
    rw [round7]
    have e : j = n := by omega
    subst e
    have : decide ((j : Int) < (j : Int)) = false := by simp
    rw [this]; rfl
  | d + 1, j, hj, hv => by
    rw [round7]
    have c1 : decide ((j : Int) < (n : Int)) = true := by simp; omega
    have c2 : decide (0 ≤ (j : Int)) = true := by simp
    have c3 : IntKind.i64.wrap ((j : Int) + 1) = ((j + 1 : Nat) : Int) := by
      rw [wrap_id (by omega)]; simp
    have r1 : ∀ p : Pan, Pan.run (evs gi) p (j + 1) = (Pan.run (evs gi) p j).ap (knd j (gi j 1)) (num j (gi j 2)) := fun _ => rfl
    have ih := loop7 K n hn L0 gi o A C hA d (j + 1) (by omega) (by rw [r1]; exact ap_valid hv)
    rw [c1, c2, c3]
    rw [r1, r1] at ih
    unfold knd num at ih
    have v1 := ap_valid (k := knd j (gi j 1)) (n := num j (gi j 2)) hv
    unfold knd num at v1
    cases hp : ((j : Int).tmod 2 == 0) <;> rw [hp] at ih v1 <;> simp only [cond_true, cond_false] at ih v1 <;> simp only [Bool.and_self, cond_true, cond_false, Pan.eq_self, Bool.not_true, v1] <;> exact ih

theorem loopOK7 : LoopOK Try.prog K7 0 B7 := by
  refine loopOK_of (sk := sk7) (G := G7) rfl ?_
  intro R l K v h
  unfold G7 at h
  split at h
  · rename_i n f m j oa ob oc od oe aa ab ac ad ae ba bb bc bd be ca cb cc cd ce da db dc dd de
    simp only [pickK] at h
    cases hd : dec ((∃ gi, f = evs gi) ∧ m = n ∧ j = 0 ∧ n ≤ 60 ∧ validM aa ab = true ∧ (⟨aa, ab, ac, ad, ae⟩ : Pan) = ⟨ba, bb, bc, bd, be⟩ ∧ (⟨ca, cb, cc, cd, ce⟩ : Pan) = ⟨da, db, dc, dd, de⟩) <;> rw [hd] at h
    · simp at h
    · simp only [cond_true] at h
      obtain ⟨⟨gi, rfl⟩, rfl, rfl, hn, hv, e1, e2⟩ := of_dec hd
      simp only [Pan.mk.injEq] at e1 e2
      obtain ⟨rfl, rfl, rfl, rfl, rfl⟩ := e1
      obtain ⟨rfl, rfl, rfl, rfl, rfl⟩ := e2
      refine ⟨n + 1, ?_⟩
      rw [← h]
      exact loop7 K n hn (n + 1) gi ⟨oa, ob, oc, od, oe⟩ ⟨aa, ab, ac, ad, ae⟩ ⟨ca, cb, cc, cd, ce⟩ hv n 0 (by omega) hv
  · simp [pickK] at h

theorem ok7 : SpecOK Try.prog K7 := specOK_of rfl ⟨r_awake, all2⟩
theorem sound7 {args : List TV} {v : TV} (h : funK Try.prog K7 0 7 args = some v) : PCall Try.prog 7 args v :=
  funK_sound_loops ok7 eq23 mixed (fun p hp => by rw [loops7] at hp; simp at hp; subst hp; exact loopOK7) h

theorem law_apply (n : Nat) (gi : Nat → Nat → Int) (a b : Int) (c d e : Bool) (L : Nat) : funK Try.prog K7 L 7 [Ov a b c d e, .v false [.view n 3 (evs gi)]] = some (.v false [.bool true]) := by
  refine Eq.trans (b := bif decide ((n : Int) > 60) then some (TV.v false [AC.bool true]) else
    bif dec ((∃ gi', evs gi = evs gi') ∧ (n : Int) = n ∧ (0 : Int) = 0 ∧ n ≤ 60 ∧ validM 100 100 = true ∧ newP = newP ∧ (⟨a, b, c, d, e⟩ : Pan) = ⟨a, b, c, d, e⟩) then
      bif (Pan.run (evs gi) newP n).eq (Pan.run (evs gi) newP n) then some (TV.v false [AC.bool (validM a b == validM a b)]) else some (TV.v false [AC.bool false])
    else none) (by kernel_rfl) ?_
  by_cases hn : n ≤ 60
  · have h1 : decide ((n : Int) > 60) = false := by simp; omega
    rw [h1, dec_true ⟨⟨gi, rfl⟩, rfl, rfl, hn, rfl, rfl, rfl⟩, Pan.eq_self]
    simp
  · have h1 : decide ((n : Int) > 60) = true := by simp; omega
    rw [h1]; rfl
end Go.Am
