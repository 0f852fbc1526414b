/- The functions of layer 39 that the laws reach, each evaluated once, and their models. -/
import Derived.Test.YtaaeijlbaifieaaAmLaw
import Derived.Test.YtaaeijlbaifieaaProg
namespace Go.Am
open Go.Proofs

def i64 (n : Int) : AC := .int .i64 n
structure Gd where
  s : Int
  f : Int
  x : Int
def Gd.cells (g : Gd) : List AC := [i64 g.s, i64 g.f, i64 g.x]
abbrev Gd.tv (g : Gd) : TV := .v true [i64 g.s, i64 g.f, i64 g.x]
abbrev Ev (c k n : Int) : TV := .v true [i64 c, i64 k, i64 n]
def startM : Gd := ⟨0, 0, -1⟩
def modM (a b : Int) : Int := (IntKind.i64.wrap (a.tmod b + b)).tmod b
def Gd.stop (g : Gd) (e ax : Int) : Gd := bif g.s == 2 then g else bif g.f == 0 then ⟨1, e, ax⟩ else ⟨1, g.f, g.x⟩
def Gd.ap (g : Gd) (k n : Int) : Gd :=
  bif k == 10 then ⟨2, 22, -1⟩ else bif k == 9 then g.stop 21 (-1) else bif k == 8 then (bif decide (0 ≤ n) && decide (n ≤ 2) then g.stop 20 n else g) else bif k == 11 then startM else g
def sTrue : List TV → Option (Bool × TV)
  | [] => some (true, .v false [.bool true])
  | _ => none
def sStart : List TV → Option (Bool × TV)
  | [] => some (true, startM.tv)
  | _ => none
def sMod : List TV → Option (Bool × TV)
  | [.v false [.int .i64 a], .v false [.int .i64 b]] => some (!(b == 0), .v false [i64 (modM a b)])
  | _ => none
def sStop : List TV → Option (Bool × TV)
  | [.v true [.int .i64 s, .int .i64 f, .int .i64 x], .v false [.int .i64 e], .v false [.int .i64 ax]] => some (true, (Gd.stop ⟨s, f, x⟩ e ax).tv)
  | _ => none
def sApply : List TV → Option (Bool × TV)
  | [.v true [.int .i64 s, .int .i64 f, .int .i64 x], .v true [.int .i64 _, .int .i64 k, .int .i64 n]] => some (true, (Gd.ap ⟨s, f, x⟩ k n).tv)
  | _ => none
def T1 : List (Nat × (List TV → Option (Bool × TV))) := [(6, sStart), (7, sStart), (12, sMod), (13, sStop), (14, sStop)]
def K0 : Cfg := { spec := fun _ => none, eqOk := [], ann := fun _ => ⟨none, none, []⟩ }
def K1 : Cfg := { spec := lookS T1, eqOk := [], ann := fun _ => ⟨none, none, []⟩, views := true }
def usK (k : Int) : Int := nth 0 [8, 9, 11, 3, 10] (modM k 5).toNat
def usN (n : Int) : Int := IntKind.i64.wrap (modM n 5 - 1)
def overM (l c m : Int) (a b : Gd) : Gd := bif decide (IntKind.i64.wrap (c - m) > l) then a else bif decide (IntKind.i64.wrap (0 - IntKind.i64.wrap (c - m)) > l) then a else b
def Gd.check (g : Gd) (l c0 c1 c2 m0 m1 m2 : Int) : Gd := bif g.s != 0 then g else overM l c0 m0 ⟨1, 19, 0⟩ (overM l c1 m1 ⟨1, 19, 1⟩ (overM l c2 m2 ⟨1, 19, 2⟩ g))
def sUsual : List TV → Option (Bool × TV)
  | [.v true [.int .i64 c, .int .i64 k, .int .i64 n]] => some (true, Ev c (usK k) (usN n))
  | _ => none
def sCheck : List TV → Option (Bool × TV)
  | [.v true [.int .i64 s, .int .i64 f, .int .i64 x], .v false [.int .i64 l], .v true [.int .i64 c0, .int .i64 c1, .int .i64 c2], .v true [.int .i64 m0, .int .i64 m1, .int .i64 m2]] => some (true, (Gd.check ⟨s, f, x⟩ l c0 c1 c2 m0 m1 m2).tv)
  | _ => none
def T2 : List (Nat × (List TV → Option (Bool × TV))) := (8, sUsual) :: (9, sApply) :: (10, sApply) :: (11, sCheck) :: T1
def T3 : List (Nat × (List TV → Option (Bool × TV))) := (5, sTrue) :: T2
def K2 : Cfg := { spec := lookS T2, eqOk := [24], ann := fun _ => ⟨none, none, []⟩ }

theorem mixed : Try.prog.follows .mixedOrders = true := by kernel_rfl
theorem stood : Try.prog.stoodInHeld 24 = false := by kernel_rfl
theorem eq24 : ∀ t ∈ [24], Try.prog.stoodInHeld t = false := fun t ht => by
  simp at ht; subst ht; exact stood
theorem ok0 : SpecOK Try.prog K0 := fun f g h => by cases h
theorem sound0 {f : FuncId} {args : List TV} {v : TV} (h : funK Try.prog K0 4 f args = some v) : PCall Try.prog f args v := funK_sound ok0 (fun t ht => by cases ht) mixed rfl h

theorem k_start (L : Nat) : funK Try.prog K0 L 6 [] = some startM.tv := by kernel_rfl
theorem k_start' (L : Nat) : funK Try.prog K0 L 7 [] = some startM.tv := by kernel_rfl
theorem k_mod (a b : Int) (L : Nat) (hb : b ≠ 0) : funK Try.prog K0 L 12 [.v false [i64 a], .v false [i64 b]] = some (.v false [i64 (modM a b)]) := by
  refine Eq.trans (b := bif decide (b = 0) then none
    else bif decide (b = 0) then none else some (TV.v false [AC.int IntKind.i64 ((IntKind.i64.wrap (a.tmod b + b)).tmod b)])) (by kernel_rfl) ?_
  simp [hb, modM, i64]
theorem k_stop (s f x e ax : Int) (L : Nat) : funK Try.prog K0 L 13 [Gd.tv ⟨s, f, x⟩, .v false [i64 e], .v false [i64 ax]] = some (Gd.stop ⟨s, f, x⟩ e ax).tv := by
  refine Eq.trans (b := bif s == 2 then some (TV.v true [AC.int IntKind.i64 s, AC.int IntKind.i64 f, AC.int IntKind.i64 x])
    else
      bif f == 0 then some (TV.v true [AC.int IntKind.i64 1, AC.int IntKind.i64 e, AC.int IntKind.i64 ax])
      else some (TV.v true [AC.int IntKind.i64 1, AC.int IntKind.i64 f, AC.int IntKind.i64 x])) (by kernel_rfl) ?_
  unfold Gd.stop
  cases s == 2 <;> cases f == 0 <;> rfl
theorem k_stop' (s f x e ax : Int) (L : Nat) : funK Try.prog K0 L 14 [Gd.tv ⟨s, f, x⟩, .v false [i64 e], .v false [i64 ax]] = some (Gd.stop ⟨s, f, x⟩ e ax).tv := by
  refine Eq.trans (b := bif s == 2 then some (TV.v true [AC.int IntKind.i64 s, AC.int IntKind.i64 f, AC.int IntKind.i64 x])
    else
      bif f == 0 then some (TV.v true [AC.int IntKind.i64 1, AC.int IntKind.i64 e, AC.int IntKind.i64 ax])
      else some (TV.v true [AC.int IntKind.i64 1, AC.int IntKind.i64 f, AC.int IntKind.i64 x])) (by kernel_rfl) ?_
  unfold Gd.stop
  cases s == 2 <;> cases f == 0 <;> rfl
theorem k_check (s f x l c0 c1 c2 m0 m1 m2 : Int) (L : Nat) : funK Try.prog K0 (L + 4) 11 [Gd.tv ⟨s, f, x⟩, .v false [i64 l], .v true [i64 c0, i64 c1, i64 c2], .v true [i64 m0, i64 m1, i64 m2]] = some (Gd.check ⟨s, f, x⟩ l c0 c1 c2 m0 m1 m2).tv := by
  refine Eq.trans (b := bif s != 0 then some (Gd.tv ⟨s, f, x⟩) else
      bif decide (IntKind.i64.wrap (c0 - m0) > l) then some (Gd.tv ⟨1, 19, 0⟩) else bif decide (IntKind.i64.wrap (0 - IntKind.i64.wrap (c0 - m0)) > l) then some (Gd.tv ⟨1, 19, 0⟩) else
      bif decide (IntKind.i64.wrap (c1 - m1) > l) then some (Gd.tv ⟨1, 19, 1⟩) else bif decide (IntKind.i64.wrap (0 - IntKind.i64.wrap (c1 - m1)) > l) then some (Gd.tv ⟨1, 19, 1⟩) else
      bif decide (IntKind.i64.wrap (c2 - m2) > l) then some (Gd.tv ⟨1, 19, 2⟩) else bif decide (IntKind.i64.wrap (0 - IntKind.i64.wrap (c2 - m2)) > l) then some (Gd.tv ⟨1, 19, 2⟩) else some (Gd.tv ⟨s, f, x⟩)) (by kernel_rfl) ?_
  unfold Gd.check overM
  cases s != 0 <;> cases decide (IntKind.i64.wrap (c0 - m0) > l) <;> cases decide (IntKind.i64.wrap (0 - IntKind.i64.wrap (c0 - m0)) > l) <;> cases decide (IntKind.i64.wrap (c1 - m1) > l) <;> cases decide (IntKind.i64.wrap (0 - IntKind.i64.wrap (c1 - m1)) > l) <;>
    cases decide (IntKind.i64.wrap (c2 - m2) > l) <;> cases decide (IntKind.i64.wrap (0 - IntKind.i64.wrap (c2 - m2)) > l) <;> rfl

theorem r_start : RowOK Try.prog (6, sStart) := RowOK.mk (by kernel_rfl) (fun args v h => by
  unfold sStart at h; split at h
  · cases h; exact sound0 (k_start ..)
  · cases h)
theorem r_start' : RowOK Try.prog (7, sStart) := RowOK.mk (by kernel_rfl) (fun args v h => by
  unfold sStart at h; split at h
  · cases h; exact sound0 (k_start' ..)
  · cases h)
theorem r_mod : RowOK Try.prog (12, sMod) := RowOK.mk (by kernel_rfl) (fun args v h => by
  unfold sMod at h; split at h
  · simp only [Option.some.injEq, Prod.mk.injEq] at h
    obtain ⟨h1, rfl⟩ := h
    exact sound0 (k_mod _ _ 4 (by simpa using h1))
  · cases h)
theorem r_stop : RowOK Try.prog (13, sStop) := RowOK.mk (by kernel_rfl) (fun args v h => by
  unfold sStop at h; split at h
  · cases h; exact sound0 (k_stop ..)
  · cases h)
theorem r_stop' : RowOK Try.prog (14, sStop) := RowOK.mk (by kernel_rfl) (fun args v h => by
  unfold sStop at h; split at h
  · cases h; exact sound0 (k_stop' ..)
  · cases h)
theorem r_check : RowOK Try.prog (11, sCheck) := RowOK.mk (by kernel_rfl) (fun args v h => by
  unfold sCheck at h; split at h
  · cases h; exact sound0 (k_check (L := 0) ..)
  · cases h)
theorem all1 : AllOK Try.prog T1 := ⟨r_start, r_start', r_mod, r_stop, r_stop', trivial⟩
theorem sound1 {f : FuncId} {args : List TV} {v : TV} (h : funK Try.prog K1 0 f args = some v) : PCall Try.prog f args v := funK_sound (specOK_of rfl all1) (fun t ht => by cases ht) mixed rfl h

theorem modM_range {a m : Int} (hm : 0 < m ∧ m < 1000) : 0 ≤ modM a m ∧ modM a m < m := by
  unfold modM
  have h1 : -m < a.tmod m ∧ a.tmod m < m := by
    have := Int.tmod_lt_of_pos a hm.1
    have h2 : -m < a.tmod m := by
      have h3 := Int.tmod_lt_of_pos (-a) hm.1
      rw [Int.neg_tmod] at h3
      omega
    omega
  rw [wrap_id (by omega)]
  constructor
  · exact Int.tmod_nonneg _ (by omega)
  · exact Int.tmod_lt_of_pos _ hm.1
theorem k_usual (c k n : Int) (L : Nat) : funK Try.prog K1 L 8 [Ev c k n] = some (Ev c (usK k) (usN n)) := by
  refine Eq.trans (b := bif decide (0 ≤ modM k 5) && decide (modM k 5 < 5) then
      some (TV.v true [AC.int IntKind.i64 c, AC.int IntKind.i64 (nth 0 [8, 9, 11, 3, 10] (modM k 5).toNat), AC.int IntKind.i64 (IntKind.i64.wrap (modM n 5 - 1))])
    else none) (by kernel_rfl) ?_
  have := modM_range (a := k) (m := 5) (by omega)
  simp [this.1, this.2, Ev, usK, usN, i64]
theorem ap_eq (s f x k n : Int) : (bif k == 10 then some (Gd.tv ⟨2, 22, -1⟩) else bif k == 9 then some (Gd.stop ⟨s, f, x⟩ 21 (-1)).tv else
    bif k == 8 then (bif decide (0 ≤ n) then bif decide (n ≤ 2) then some (Gd.stop ⟨s, f, x⟩ 20 n).tv else some (Gd.tv ⟨s, f, x⟩) else some (Gd.tv ⟨s, f, x⟩)) else bif k == 11 then some startM.tv else some (Gd.tv ⟨s, f, x⟩)) = some (Gd.ap ⟨s, f, x⟩ k n).tv := by
  unfold Gd.ap
  cases k == 10 <;> cases k == 9 <;> cases k == 8 <;> cases k == 11 <;> cases decide (0 ≤ n) <;> cases decide (n ≤ 2) <;> rfl
theorem k_apply (s f x c k n : Int) (L : Nat) : funK Try.prog K1 L 9 [Gd.tv ⟨s, f, x⟩, Ev c k n] = some (Gd.ap ⟨s, f, x⟩ k n).tv := by
  refine Eq.trans ?_ (ap_eq s f x k n)
  kernel_rfl
theorem k_apply' (s f x c k n : Int) (L : Nat) : funK Try.prog K1 L 10 [Gd.tv ⟨s, f, x⟩, Ev c k n] = some (Gd.ap ⟨s, f, x⟩ k n).tv := by
  refine Eq.trans ?_ (ap_eq s f x k n)
  kernel_rfl
theorem r_usual : RowOK Try.prog (8, sUsual) := RowOK.mk (by kernel_rfl) (fun args v h => by
  unfold sUsual at h; split at h
  · cases h; exact sound1 (k_usual ..)
  · cases h)
theorem r_apply : RowOK Try.prog (9, sApply) := RowOK.mk (by kernel_rfl) (fun args v h => by
  unfold sApply at h; split at h
  · cases h; exact sound1 (k_apply ..)
  · cases h)
theorem r_apply' : RowOK Try.prog (10, sApply) := RowOK.mk (by kernel_rfl) (fun args v h => by
  unfold sApply at h; split at h
  · cases h; exact sound1 (k_apply' ..)
  · cases h)
theorem all2 : AllOK Try.prog T2 := ⟨r_usual, r_apply, r_apply', r_check, all1⟩
theorem sound2 {f : FuncId} {args : List TV} {v : TV} (h : funK Try.prog K2 0 f args = some v) : PCall Try.prog f args v := funK_sound (specOK_of rfl all2) eq24 mixed rfl h
theorem r_awake : RowOK Try.prog (5, sTrue) := RowOK.mk (by kernel_rfl) (fun args v h => by
  unfold sTrue at h; split at h
  · cases h; exact sound2 (by kernel_rfl)
  · cases h)
theorem all3 : AllOK Try.prog T3 := ⟨r_awake, all2⟩
end Go.Am
