/- The functions of layer 35, each evaluated once, and their models. -/
import Derived.Test.YticldimccdceaaaAmCall
import Derived.Test.YticldimccdceaaaAmRow
import Derived.Test.YticldimccdceaaaProg
namespace Go.Am
open Go.Proofs
def i64 (n : Int) : AC := .int .i64 n
def newM : List AC := [i64 100, i64 100, .bool false, .bool false, .bool false]
def toggledM (on : Bool) (n : Int) : Bool := bif n == 0 then false else bif n == 1 then true else on
def scaledM (v p : Int) : Int := bif p == 0 then 0 else mx (IntKind.i64.wrap ((IntKind.i64.wrap (v * p)).tdiv 100)) 1
def targetM (a b : Int) (c : Bool) (r f q : Int) : Int :=
  bif c then 0 else bif q != 0 then mn (mx f 1) 16777216 else bif f == 0 then mn (scaledM r b) 16777216 else mn (scaledM f a) 16777216
def validM (a b : Int) : Bool := decide (0 ≤ a) && decide (a ≤ 200) && decide (0 ≤ b) && decide (b ≤ 100)
def planM (j k r : Int) : Bool := decide (1 ≤ j) && decide (j ≤ 65536) && decide (2 ≤ k) && decide (k ≤ 65536) && decide (1 ≤ r) && decide (r ≤ 16777216)
def askedM (j k r f : Int) : Bool := planM j k r && decide (0 ≤ f) && decide (f ≤ 16777216)
def panM (m a : Int) : Int := (IntKind.i64.wrap (a.tmod m + m)).tmod m
def apA (a k n : Int) : Int := bif k == 1 && decide (0 ≤ n) && decide (n ≤ 200) then n else a
def apB (b k n : Int) : Int := bif k == 2 && decide (0 ≤ n) && decide (n ≤ 100) then n else b
def apC (c : Bool) (k : Int) : Bool := bif k == 3 then true else bif k == 4 then false else c
def apD (d : Bool) (k n : Int) : Bool := bif k == 5 then toggledM d n else d
def apE (e : Bool) (k n : Int) : Bool := bif k == 6 then toggledM e n else e
abbrev Ov (a b : Int) (c d e : Bool) : TV := .v true [i64 a, i64 b, .bool c, .bool d, .bool e]
def lookS (l : List (Nat × (List TV → Option (Bool × TV)))) (f : FuncId) : Option (List TV → Option (Bool × TV)) := look l f
def sTrue : List TV → Option (Bool × TV)
  | [] => some (true, .v false [.bool true])
  | _ => none
def sNew : List TV → Option (Bool × TV)
  | [] => some (true, .v true newM)
  | _ => none
def sToggled : List TV → Option (Bool × TV)
  | [.v false [.bool on], .v false [.int .i64 n]] => some (true, .v false [.bool (toggledM on n)])
  | _ => none
def sScaled : List TV → Option (Bool × TV)
  | [.v false [.int .i64 v], .v false [.int .i64 p]] => some (true, .v false [i64 (scaledM v p)])
  | _ => none
def sTarget : List TV → Option (Bool × TV)
  | [.v true [.int .i64 a, .int .i64 b, .bool c, .bool _, .bool _], .v true [.int .i64 _, .int .i64 _, .int .i64 r], .v true [.int .i64 _, .int .i64 _, .int .i64 _, .int .i64 _, .int .i64 _, .int .i64 f, .int .i64 q]] =>
      some (true, .v false [i64 (targetM a b c r f q)])
  | _ => none
def sValid : List TV → Option (Bool × TV)
  | [.v true [.int .i64 a, .int .i64 b, .bool _, .bool _, .bool _]] => some (true, .v false [.bool (validM a b)])
  | _ => none
def sPlan : List TV → Option (Bool × TV)
  | [.v true [.int .i64 j, .int .i64 k, .int .i64 r]] => some (true, .v false [.bool (planM j k r)])
  | _ => none
def sAsked : List TV → Option (Bool × TV)
  | [.v true [.int .i64 j, .int .i64 k, .int .i64 r], .v true [.int .i64 _, .int .i64 _, .int .i64 _, .int .i64 _, .int .i64 _, .int .i64 f, .int .i64 _]] => some (true, .v false [.bool (askedM j k r f)])
  | _ => none
def sPanel : List TV → Option (Bool × TV)
  | [.v true [.int .i64 a, .int .i64 b, .bool c, .bool d, .bool e]] => some (true, Ov (panM 201 a) (panM 101 b) c d e)
  | _ => none
def sApply : List TV → Option (Bool × TV)
  | [.v true [.int .i64 a, .int .i64 b, .bool c, .bool d, .bool e], .v true [.int .i64 _, .int .i64 k, .int .i64 n]] => some (true, Ov (apA a k n) (apB b k n) (apC c k) (apD d k n) (apE e k n))
  | _ => none
def T1 : List (Nat × (List TV → Option (Bool × TV))) := [(14, sNew), (15, sNew), (17, sValid), (18, sValid), (19, sPlan), (20, sScaled), (21, sToggled)]
def T2 : List (Nat × (List TV → Option (Bool × TV))) := (9, sAsked) :: (10, sPanel) :: (11, sTarget) :: (12, sTarget) :: (13, sApply) :: (16, sApply) :: T1
def T3 : List (Nat × (List TV → Option (Bool × TV))) := (8, sTrue) :: T2
def K0 : Cfg := { spec := fun _ => none, eqOk := [], ann := fun _ => ⟨none, none, []⟩ }
def K1 : Cfg := { spec := lookS T1, eqOk := [], ann := fun _ => ⟨none, none, []⟩ }
def K2 : Cfg := { spec := lookS T2, eqOk := [23], ann := fun _ => ⟨none, none, []⟩ }
def K3 : Cfg := { spec := lookS T3, eqOk := [23], ann := fun _ => ⟨none, none, []⟩ }
abbrev Pl (a b c : Int) : TV := .v true [i64 a, i64 b, i64 c]
abbrev Sg (x y z l i f d : Int) : TV := .v true [i64 x, i64 y, i64 z, i64 l, i64 i, i64 f, i64 d]

theorem k_new (L : Nat) : funK Try.prog K0 L 14 [] = some (.v true newM) := by kernel_rfl
theorem k_new' (L : Nat) : funK Try.prog K0 L 15 [] = some (.v true newM) := by kernel_rfl
theorem k_toggled (b : Bool) (a : Int) (L : Nat) : funK Try.prog K0 L 21 [.v false [.bool b], .v false [i64 a]] = some (.v false [.bool (toggledM b a)]) := by
  refine Eq.trans (b := bif a == 0 then some (TV.v false [AC.bool false]) else bif a == 1 then some (TV.v false [AC.bool true]) else some (TV.v false [AC.bool b])) (by kernel_rfl) ?_
  unfold toggledM
  cases a == 0 <;> cases a == 1 <;> rfl
theorem k_scaled (a b : Int) (L : Nat) : funK Try.prog K0 L 20 [.v false [i64 a], .v false [i64 b]] = some (.v false [i64 (scaledM a b)]) := by
  refine Eq.trans (b := bif b == 0 then some (TV.v false [AC.int IntKind.i64 0])
    else some (TV.v false [AC.int IntKind.i64 (mx (IntKind.i64.wrap ((IntKind.i64.wrap (a * b)).tdiv 100)) 1)])) (by kernel_rfl) ?_
  unfold scaledM i64
  cases b == 0 <;> rfl
theorem k_plan (j k r : Int) (L : Nat) : funK Try.prog K0 L 19 [Pl j k r] = some (.v false [.bool (planM j k r)]) := by
  refine Eq.trans (b := bif decide (j ≥ 1) then
    bif decide (j ≤ 65536) then
      bif decide (k ≥ 2) then
        bif decide (k ≤ 65536) then
          bif decide (r ≥ 1) then some (TV.v false [AC.bool (decide (r ≤ 16777216))])
          else some (TV.v false [AC.bool false])
        else some (TV.v false [AC.bool false])
      else some (TV.v false [AC.bool false])
    else some (TV.v false [AC.bool false])
  else some (TV.v false [AC.bool false])) (by kernel_rfl) ?_
  unfold planM
  cases h1 : decide (1 ≤ j) <;> cases h2 : decide (j ≤ 65536) <;> cases h3 : decide (2 ≤ k) <;> cases h4 : decide (k ≤ 65536) <;> cases h5 : decide (1 ≤ r) <;> simp_all
theorem k_valid (a b : Int) (c d e : Bool) (L : Nat) : funK Try.prog K0 L 17 [Ov a b c d e] = some (.v false [.bool (validM a b)]) := by
  refine Eq.trans (b := bif decide (0 ≤ a) then
    bif decide (a ≤ 200) then
      bif decide (0 ≤ b) then some (TV.v false [AC.bool (decide (b ≤ 100))]) else some (TV.v false [AC.bool false])
    else some (TV.v false [AC.bool false])
  else some (TV.v false [AC.bool false])) (by kernel_rfl) ?_
  unfold validM
  cases h1 : decide (0 ≤ a) <;> cases h2 : decide (a ≤ 200) <;> cases h3 : decide (0 ≤ b) <;> simp_all
theorem k_valid' (a b : Int) (c d e : Bool) (L : Nat) : funK Try.prog K0 L 18 [Ov a b c d e] = some (.v false [.bool (validM a b)]) := by
  refine Eq.trans (b := bif decide (a ≥ 0) then
    bif decide (a ≤ 200) then
      bif decide (b ≥ 0) then some (TV.v false [AC.bool (decide (b ≤ 100))]) else some (TV.v false [AC.bool false])
    else some (TV.v false [AC.bool false])
  else some (TV.v false [AC.bool false])) (by kernel_rfl) ?_
  unfold validM
  cases h1 : decide (0 ≤ a) <;> cases h2 : decide (a ≤ 200) <;> cases h3 : decide (0 ≤ b) <;> simp_all

def callableB (P : Program) (f : FuncId) : Bool := match P.funcs[f]? with
  | some fn => !(fn.name == "runtime.NumGoroutine") && fn.body.isSome
  | none => false
theorem callable_of {P : Program} {f : FuncId} (h : callableB P f = true) : Callable P f := by
  unfold callableB at h
  split at h
  · rename_i fn hf
    simp only [Bool.and_eq_true, Bool.not_eq_true'] at h
    exact ⟨fn, hf, h.1, by cases hb : fn.body <;> simp_all⟩
  · cases h
theorem look_mem {α : Type} : ∀ (l : List (Nat × α)) (f : Nat) (g : α), look l f = some g → (f, g) ∈ l
  | [], _, _, h => by simp [look] at h
  | (k, b) :: l, f, g, h => by
    unfold look at h
    cases hb : Nat.beq k f <;> rw [hb] at h
    · exact List.mem_cons_of_mem _ (look_mem l f g h)
    · simp at h; subst h
      rw [Nat.eq_of_beq_eq_true hb]; simp
def RowOK (P : Program) (p : Nat × (List TV → Option (Bool × TV))) : Prop := Callable P p.1 ∧ ∀ (args : List TV) (v : TV), p.2 args = some (true, v) → PCall P p.1 args v
theorem RowOK.mk {P : Program} {f : Nat} {g : List TV → Option (Bool × TV)} (h : callableB P f = true) (h' : ∀ (args : List TV) (v : TV), g args = some (true, v) → PCall P f args v) : RowOK P (f, g) := ⟨callable_of h, h'⟩
def AllOK (P : Program) : List (Nat × (List TV → Option (Bool × TV))) → Prop
  | [] => True
  | p :: l => RowOK P p ∧ AllOK P l
theorem AllOK.mem {P : Program} : ∀ {l : List (Nat × (List TV → Option (Bool × TV)))}, AllOK P l → ∀ p ∈ l, RowOK P p
  | _ :: l, h, p, hp => by
    rcases List.mem_cons.1 hp with rfl | hp
    · exact h.1
    · exact AllOK.mem h.2 p hp
theorem specOK_of {P : Program} {C : Cfg} {l : List (Nat × (List TV → Option (Bool × TV)))} (hC : C.spec = lookS l) (h : AllOK P l) : SpecOK P C := by
  intro f g hg
  rw [hC] at hg
  exact h.mem _ (look_mem l f g hg)

theorem mixed : Try.prog.follows .mixedOrders = true := by kernel_rfl
theorem stood : Try.prog.stoodInHeld 23 = false := by kernel_rfl
theorem ok0 : SpecOK Try.prog K0 := fun f g h => by cases h
theorem sound0 {f : FuncId} {args : List TV} {v : TV} (h : funK Try.prog K0 0 f args = some v) : PCall Try.prog f args v := funK_sound ok0 (fun t ht => by cases ht) mixed rfl h

theorem r_new : RowOK Try.prog (14, sNew) := RowOK.mk (by kernel_rfl) (fun args v h => by
  unfold sNew at h; split at h
  · cases h; exact sound0 (k_new 0)
  · cases h)
theorem r_new' : RowOK Try.prog (15, sNew) := RowOK.mk (by kernel_rfl) (fun args v h => by
  unfold sNew at h; split at h
  · cases h; exact sound0 (k_new' 0)
  · cases h)
theorem r_valid : RowOK Try.prog (17, sValid) := RowOK.mk (by kernel_rfl) (fun args v h => by
  unfold sValid at h; split at h
  · cases h; exact sound0 (k_valid ..)
  · cases h)
theorem r_valid' : RowOK Try.prog (18, sValid) := RowOK.mk (by kernel_rfl) (fun args v h => by
  unfold sValid at h; split at h
  · cases h; exact sound0 (k_valid' ..)
  · cases h)
theorem r_plan : RowOK Try.prog (19, sPlan) := RowOK.mk (by kernel_rfl) (fun args v h => by
  unfold sPlan at h; split at h
  · cases h; exact sound0 (k_plan ..)
  · cases h)
theorem r_scaled : RowOK Try.prog (20, sScaled) := RowOK.mk (by kernel_rfl) (fun args v h => by
  unfold sScaled at h; split at h
  · cases h; exact sound0 (k_scaled ..)
  · cases h)
theorem r_toggled : RowOK Try.prog (21, sToggled) := RowOK.mk (by kernel_rfl) (fun args v h => by
  unfold sToggled at h; split at h
  · cases h; exact sound0 (k_toggled ..)
  · cases h)
theorem all1 : AllOK Try.prog T1 := ⟨r_new, r_new', r_valid, r_valid', r_plan, r_scaled, r_toggled, trivial⟩
theorem ok1 : SpecOK Try.prog K1 := specOK_of rfl all1
theorem sound1 {f : FuncId} {args : List TV} {v : TV} (h : funK Try.prog K1 0 f args = some v) : PCall Try.prog f args v := funK_sound ok1 (fun t ht => by cases ht) mixed rfl h

theorem k_target (a b : Int) (c d e : Bool) (j k r x y z l i f q : Int) (L : Nat) : funK Try.prog K1 L 11 [Ov a b c d e, Pl j k r, Sg x y z l i f q] = some (.v false [i64 (targetM a b c r f q)]) := by
  refine Eq.trans (b := bif c then some (TV.v false [AC.int IntKind.i64 0])
    else
  bif q != 0 then some (TV.v false [AC.int IntKind.i64 (mn (mx f 1) 16777216)])
  else
    bif f == 0 then
      bif b == 0 then some (TV.v false [AC.int IntKind.i64 0])
      else
        some
          (TV.v false
            [AC.int IntKind.i64 (mn (mx (IntKind.i64.wrap ((IntKind.i64.wrap (r * b)).tdiv 100)) 1) 16777216)])
    else
      bif a == 0 then some (TV.v false [AC.int IntKind.i64 0])
      else
        some
          (TV.v false
            [AC.int IntKind.i64 (mn (mx (IntKind.i64.wrap ((IntKind.i64.wrap (f * a)).tdiv 100)) 1) 16777216)])) (by kernel_rfl) ?_
  unfold targetM scaledM i64
  cases c <;> cases q != 0 <;> cases f == 0 <;> cases b == 0 <;> cases a == 0 <;> rfl
theorem k_target' (a b : Int) (c d e : Bool) (j k r x y z l i f q : Int) (L : Nat) : funK Try.prog K1 L 12 [Ov a b c d e, Pl j k r, Sg x y z l i f q] = some (.v false [i64 (targetM a b c r f q)]) := by
  refine Eq.trans (b := bif c then some (TV.v false [AC.int IntKind.i64 0])
    else
  bif q != 0 then some (TV.v false [AC.int IntKind.i64 (mn (mx f 1) 16777216)])
  else
    bif f == 0 then some (TV.v false [AC.int IntKind.i64 (mn (scaledM r b) 16777216)])
    else some (TV.v false [AC.int IntKind.i64 (mn (scaledM f a) 16777216)])) (by kernel_rfl) ?_
  unfold targetM i64
  cases c <;> cases q != 0 <;> cases f == 0 <;> rfl
theorem k_asked (j k r x y z l i f q : Int) (L : Nat) : funK Try.prog K1 L 9 [Pl j k r, Sg x y z l i f q] = some (.v false [.bool (askedM j k r f)]) := by
  refine Eq.trans (b := bif planM j k r then
  bif decide (f ≥ 0) then some (TV.v false [AC.bool (decide (f ≤ 16777216))]) else some (TV.v false [AC.bool false])
    else some (TV.v false [AC.bool false])) (by kernel_rfl) ?_
  unfold askedM
  cases planM j k r <;> cases h : decide (0 ≤ f) <;> simp_all
theorem k_panel (a b : Int) (c d e : Bool) (L : Nat) : funK Try.prog K1 L 10 [Ov a b c d e] = some (Ov (panM 201 a) (panM 101 b) c d e) := by kernel_rfl
theorem k_apply (a b : Int) (c d e : Bool) (j k n : Int) (L : Nat) : funK Try.prog K1 L 13 [Ov a b c d e, Pl j k n] = some (Ov (apA a k n) (apB b k n) (apC c k) (apD d k n) (apE e k n)) := by
  refine Eq.trans (b := bif k == 1 then
  bif decide (0 ≤ n) then
    bif decide (n ≤ 200) then
      some (TV.v true [AC.int IntKind.i64 n, AC.int IntKind.i64 b, AC.bool c, AC.bool d, AC.bool e])
    else some (TV.v true [AC.int IntKind.i64 a, AC.int IntKind.i64 b, AC.bool c, AC.bool d, AC.bool e])
  else some (TV.v true [AC.int IntKind.i64 a, AC.int IntKind.i64 b, AC.bool c, AC.bool d, AC.bool e])
    else
  bif k == 2 then
    bif decide (0 ≤ n) then
      bif decide (n ≤ 100) then
        some (TV.v true [AC.int IntKind.i64 a, AC.int IntKind.i64 n, AC.bool c, AC.bool d, AC.bool e])
      else some (TV.v true [AC.int IntKind.i64 a, AC.int IntKind.i64 b, AC.bool c, AC.bool d, AC.bool e])
    else some (TV.v true [AC.int IntKind.i64 a, AC.int IntKind.i64 b, AC.bool c, AC.bool d, AC.bool e])
  else
    bif k == 3 then some (TV.v true [AC.int IntKind.i64 a, AC.int IntKind.i64 b, AC.bool true, AC.bool d, AC.bool e])
    else
      bif k == 4 then some (TV.v true [AC.int IntKind.i64 a, AC.int IntKind.i64 b, AC.bool false, AC.bool d, AC.bool e])
      else
        bif k == 5 then
          some
            (TV.v true
              [AC.int IntKind.i64 a, AC.int IntKind.i64 b, AC.bool c,
                AC.bool (toggledM d n), AC.bool e])
        else
          bif k == 6 then
            some
              (TV.v true
                [AC.int IntKind.i64 a, AC.int IntKind.i64 b, AC.bool c, AC.bool d,
                  AC.bool (toggledM e n)])
          else some (TV.v true [AC.int IntKind.i64 a, AC.int IntKind.i64 b, AC.bool c, AC.bool d, AC.bool e])) (by kernel_rfl) ?_
  unfold apA apB apC apD apE Ov i64
  by_cases h1 : k = 1
  · subst h1; cases decide (0 ≤ n) <;> cases decide (n ≤ 200) <;> rfl
  by_cases h2 : k = 2
  · subst h2; cases decide (0 ≤ n) <;> cases decide (n ≤ 100) <;> rfl
  by_cases h3 : k = 3
  · subst h3; rfl
  by_cases h4 : k = 4
  · subst h4; rfl
  by_cases h5 : k = 5
  · subst h5; rfl
  by_cases h6 : k = 6
  · subst h6; rfl
  have f1 : (k == 1) = false := by simpa using h1
  have f2 : (k == 2) = false := by simpa using h2
  have f3 : (k == 3) = false := by simpa using h3
  have f4 : (k == 4) = false := by simpa using h4
  have f5 : (k == 5) = false := by simpa using h5
  have f6 : (k == 6) = false := by simpa using h6
  rw [f1, f2, f3, f4, f5, f6]; rfl
theorem togg (b : Bool) (n : Int) : (bif n == 0 then (n == 1) else bif n == 1 then (n == 1) else b) = toggledM b n := by
  unfold toggledM
  by_cases h0 : n = 0
  · subst h0; rfl
  by_cases h1 : n = 1
  · subst h1; rfl
  have f0 : (n == 0) = false := by simpa using h0
  have f1 : (n == 1) = false := by simpa using h1
  rw [f0, f1]; rfl
theorem k_apply' (a b : Int) (c d e : Bool) (j k n : Int) (L : Nat) : funK Try.prog K1 L 16 [Ov a b c d e, Pl j k n] = some (Ov (apA a k n) (apB b k n) (apC c k) (apD d k n) (apE e k n)) := by
  refine Eq.trans (b := bif k == 1 then
  bif decide (n ≥ 0) then
    bif decide (n ≤ 200) then
      some (TV.v true [AC.int IntKind.i64 n, AC.int IntKind.i64 b, AC.bool c, AC.bool d, AC.bool e])
    else some (TV.v true [AC.int IntKind.i64 a, AC.int IntKind.i64 b, AC.bool c, AC.bool d, AC.bool e])
  else some (TV.v true [AC.int IntKind.i64 a, AC.int IntKind.i64 b, AC.bool c, AC.bool d, AC.bool e])
    else
  bif k == 2 then
    bif decide (n ≥ 0) then
      bif decide (n ≤ 100) then
        some (TV.v true [AC.int IntKind.i64 a, AC.int IntKind.i64 n, AC.bool c, AC.bool d, AC.bool e])
      else some (TV.v true [AC.int IntKind.i64 a, AC.int IntKind.i64 b, AC.bool c, AC.bool d, AC.bool e])
    else some (TV.v true [AC.int IntKind.i64 a, AC.int IntKind.i64 b, AC.bool c, AC.bool d, AC.bool e])
  else
    bif k == 3 then some (TV.v true [AC.int IntKind.i64 a, AC.int IntKind.i64 b, AC.bool true, AC.bool d, AC.bool e])
    else
      bif k == 4 then some (TV.v true [AC.int IntKind.i64 a, AC.int IntKind.i64 b, AC.bool false, AC.bool d, AC.bool e])
      else
        bif k == 5 then
          bif n == 0 then
            some (TV.v true [AC.int IntKind.i64 a, AC.int IntKind.i64 b, AC.bool c, AC.bool (n == 1), AC.bool e])
          else
            bif n == 1 then
              some (TV.v true [AC.int IntKind.i64 a, AC.int IntKind.i64 b, AC.bool c, AC.bool (n == 1), AC.bool e])
            else some (TV.v true [AC.int IntKind.i64 a, AC.int IntKind.i64 b, AC.bool c, AC.bool d, AC.bool e])
        else
          bif k == 6 then
            bif n == 0 then
              some (TV.v true [AC.int IntKind.i64 a, AC.int IntKind.i64 b, AC.bool c, AC.bool d, AC.bool (n == 1)])
            else
              bif n == 1 then
                some (TV.v true [AC.int IntKind.i64 a, AC.int IntKind.i64 b, AC.bool c, AC.bool d, AC.bool (n == 1)])
              else some (TV.v true [AC.int IntKind.i64 a, AC.int IntKind.i64 b, AC.bool c, AC.bool d, AC.bool e])
          else some (TV.v true [AC.int IntKind.i64 a, AC.int IntKind.i64 b, AC.bool c, AC.bool d, AC.bool e])) (by kernel_rfl) ?_
  rw [← k_apply a b c d e j k n L, k_apply a b c d e j k n L]
  unfold apA apB apC apD apE Ov i64
  by_cases h1 : k = 1
  · subst h1; cases h : decide (0 ≤ n) <;> cases decide (n ≤ 200) <;> simp_all
  by_cases h2 : k = 2
  · subst h2; cases h : decide (0 ≤ n) <;> cases decide (n ≤ 100) <;> simp_all
  by_cases h3 : k = 3
  · subst h3; rfl
  by_cases h4 : k = 4
  · subst h4; rfl
  by_cases h5 : k = 5
  · subst h5; rw [← togg d n]; cases n == 0 <;> cases n == 1 <;> rfl
  by_cases h6 : k = 6
  · subst h6; rw [← togg e n]; cases n == 0 <;> cases n == 1 <;> rfl
  have f1 : (k == 1) = false := by simpa using h1
  have f2 : (k == 2) = false := by simpa using h2
  have f3 : (k == 3) = false := by simpa using h3
  have f4 : (k == 4) = false := by simpa using h4
  have f5 : (k == 5) = false := by simpa using h5
  have f6 : (k == 6) = false := by simpa using h6
  rw [f1, f2, f3, f4, f5, f6]; rfl

theorem r_target : RowOK Try.prog (11, sTarget) := RowOK.mk (by kernel_rfl) (fun args v h => by
  unfold sTarget at h; split at h
  · cases h; exact sound1 (k_target ..)
  · cases h)
theorem r_target' : RowOK Try.prog (12, sTarget) := RowOK.mk (by kernel_rfl) (fun args v h => by
  unfold sTarget at h; split at h
  · cases h; exact sound1 (k_target' ..)
  · cases h)
theorem r_asked : RowOK Try.prog (9, sAsked) := RowOK.mk (by kernel_rfl) (fun args v h => by
  unfold sAsked at h; split at h
  · cases h; exact sound1 (k_asked ..)
  · cases h)
theorem r_panel : RowOK Try.prog (10, sPanel) := RowOK.mk (by kernel_rfl) (fun args v h => by
  unfold sPanel at h; split at h
  · cases h; exact sound1 (k_panel ..)
  · cases h)
theorem r_apply : RowOK Try.prog (13, sApply) := RowOK.mk (by kernel_rfl) (fun args v h => by
  unfold sApply at h; split at h
  · cases h; exact sound1 (k_apply ..)
  · cases h)
theorem r_apply' : RowOK Try.prog (16, sApply) := RowOK.mk (by kernel_rfl) (fun args v h => by
  unfold sApply at h; split at h
  · cases h; exact sound1 (k_apply' ..)
  · cases h)
theorem all2 : AllOK Try.prog T2 := ⟨r_asked, r_panel, r_target, r_target', r_apply, r_apply', all1⟩
theorem ok2 : SpecOK Try.prog K2 := specOK_of rfl all2
theorem eq23 : ∀ t ∈ [23], Try.prog.stoodInHeld t = false := fun t ht => by
  simp at ht; subst ht; exact stood
theorem sound2 {f : FuncId} {args : List TV} {v : TV} (h : funK Try.prog K2 0 f args = some v) : PCall Try.prog f args v := funK_sound ok2 eq23 mixed rfl h
theorem r_awake : RowOK Try.prog (8, sTrue) := RowOK.mk (by kernel_rfl) (fun args v h => by
  unfold sTrue at h; split at h
  · cases h; exact sound2 (by kernel_rfl)
  · cases h)
theorem ok3 : SpecOK Try.prog K3 := specOK_of rfl ⟨r_awake, all2⟩
theorem sound3 {f : FuncId} {args : List TV} {v : TV} (h : funK Try.prog K3 0 f args = some v) : PCall Try.prog f args v := funK_sound ok3 eq23 mixed rfl h
end Go.Am
