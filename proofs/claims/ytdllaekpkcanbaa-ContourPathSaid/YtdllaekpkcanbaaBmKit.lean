/- What proofs about models use: loops by invariants, ints within their kind's range, lists of rows. -/
import Derived.Test.YtdllaekpkcanbaaBmLaw
set_option linter.unusedVariables false
set_option linter.unusedSimpArgs false
namespace Go.Bm

abbrev I (n : Int) : AC := .int .i64 n
abbrev U (n : Int) : AC := .int .u64 n
abbrev B (b : Bool) : AC := .bool b

theorem Qeh {x : Int} (h : 0 <= x /\ x <= 18446744073709551615) : IntKind.u64.wrap x = x := by
 simp [IntKind.wrap, IntKind.signed, IntKind.bits]
 omega
theorem uwrap_mod (x : Int) : IntKind.u64.wrap x = x % 18446744073709551616 := by
 simp [IntKind.wrap, IntKind.signed, IntKind.bits]
theorem wrap_def (x : Int) : IntKind.i64.wrap x = (x + 9223372036854775808) % 18446744073709551616 - 9223372036854775808 := by
 simp [IntKind.wrap, IntKind.signed, IntKind.bits]
 omega
def i64 (x : Int) : Prop := -9223372036854775808 <= x /\ x <= 9223372036854775807
theorem Qob {α : Type} {c : Bool} {a b : α} (h : c = true) : (bif c then a else b) = a := by rw [h]; rfl
theorem Qky {α : Type} {c : Bool} {a b : α} (h : c = false) : (bif c then a else b) = b := by rw [h]; rfl
theorem Qhd {α : Type} {p : Prop} {inst : Decidable p} {a b : α} (h : p) : (bif @decide p inst then a else b) = a := by rw [@decide_eq_true p inst h]; rfl
theorem Qcl {α : Type} {p : Prop} {inst : Decidable p} {a b : α} (h : ¬ p) : (bif @decide p inst then a else b) = b := by rw [@decide_eq_false p inst h]; rfl
theorem bif_ite {α : Type} {p : Prop} {inst : Decidable p} {a b : α} : (bif @decide p inst then a else b) = if p then a else b := by
 by_cases h : p
 ·rw [Qhd h, if_pos h]
 ·rw [Qcl h, if_neg h]

theorem cond_ite {α : Type} {c : Bool} {a b : α} : (bif c then a else b) = if c = true then a else b := by cases c <;> rfl
theorem and_iff {a b : Bool} : ((a && b) = true) = (a = true /\ b = true) := by cases a <;> cases b <;> simp
theorem or_iff {a b : Bool} : ((a || b) = true) = (a = true \/ b = true) := by cases a <;> cases b <;> simp
theorem not_iff {a : Bool} : ((!a) = true) = ¬ (a = true) := by cases a <;> simp
theorem dec_iff {p : Prop} {inst : Decidable p} : (@decide p inst = true) = p := by simp
theorem beq_iffI {a b : Int} : ((a == b) = true) = (a = b) := by simp
theorem bne_iffI {a b : Int} : ((a != b) = true) = (a ≠ b) := by simp
theorem beq_iffN {a b : Nat} : (Nat.beq a b = true) = (a = b) := by simp
theorem ble_iffN {a b : Nat} : (Nat.ble a b = true) = (a <= b) := by simp
attribute [go_sem ↓] bif_ite cond_ite and_iff or_iff not_iff dec_iff beq_iffI bne_iffI beq_iffN ble_iffN
theorem Qjm {α : Type} (d x : α) (l : List α) : nth d (x :: l) 0 = x := by simp [nth]
theorem Qiz (k : IntKind) (n : Int) : Qav (.int k n) = n := by simp [Qav]
theorem boolOf_bool (b : Bool) : boolOf (.bool b) = b := by simp [boolOf]
theorem rowsOf_view (ks : List Kd) (l : List (List AC)) : rowsOf (.view ks l) = l := by simp [rowsOf]
theorem deq_iff {p q : Prop} {i1 : Decidable p} {i2 : Decidable q} : ((@decide p i1 == @decide q i2) = true) = (p ↔ q) := by simp
theorem nbeq_iffN {a b : Nat} : ((a == b) = true) = (a = b) := by simp
attribute [go_sem ↓] deq_iff nbeq_iffN
attribute [go_sem] if_true if_false
theorem nth_1 {α : Type} (d x : α) (l : List α) : nth d (x :: l) 1 = nth d l 0 := by simp [nth]
theorem nth_2 {α : Type} (d x : α) (l : List α) : nth d (x :: l) 2 = nth d l 1 := by simp [nth]
theorem nth_3 {α : Type} (d x : α) (l : List α) : nth d (x :: l) 3 = nth d l 2 := by simp [nth]
theorem nth_4 {α : Type} (d x : α) (l : List α) : nth d (x :: l) 4 = nth d l 3 := by simp [nth]
theorem nth_5 {α : Type} (d x : α) (l : List α) : nth d (x :: l) 5 = nth d l 4 := by simp [nth]
theorem nth_6 {α : Type} (d x : α) (l : List α) : nth d (x :: l) 6 = nth d l 5 := by simp [nth]
theorem nth_7 {α : Type} (d x : α) (l : List α) : nth d (x :: l) 7 = nth d l 6 := by simp [nth]
theorem nth_8 {α : Type} (d x : α) (l : List α) : nth d (x :: l) 8 = nth d l 7 := by simp [nth]
theorem nth_9 {α : Type} (d x : α) (l : List α) : nth d (x :: l) 9 = nth d l 8 := by simp [nth]
theorem nth_10 {α : Type} (d x : α) (l : List α) : nth d (x :: l) 10 = nth d l 9 := by simp [nth]
theorem nth_11 {α : Type} (d x : α) (l : List α) : nth d (x :: l) 11 = nth d l 10 := by simp [nth]
theorem nth_12 {α : Type} (d x : α) (l : List α) : nth d (x :: l) 12 = nth d l 11 := by simp [nth]
theorem nth_13 {α : Type} (d x : α) (l : List α) : nth d (x :: l) 13 = nth d l 12 := by simp [nth]
theorem nth_14 {α : Type} (d x : α) (l : List α) : nth d (x :: l) 14 = nth d l 13 := by simp [nth]
theorem nth_15 {α : Type} (d x : α) (l : List α) : nth d (x :: l) 15 = nth d l 14 := by simp [nth]
theorem nth_16 {α : Type} (d x : α) (l : List α) : nth d (x :: l) 16 = nth d l 15 := by simp [nth]
theorem nth_17 {α : Type} (d x : α) (l : List α) : nth d (x :: l) 17 = nth d l 16 := by simp [nth]
theorem nth_18 {α : Type} (d x : α) (l : List α) : nth d (x :: l) 18 = nth d l 17 := by simp [nth]
theorem nth_19 {α : Type} (d x : α) (l : List α) : nth d (x :: l) 19 = nth d l 18 := by simp [nth]
theorem nth_20 {α : Type} (d x : α) (l : List α) : nth d (x :: l) 20 = nth d l 19 := by simp [nth]
theorem nth_21 {α : Type} (d x : α) (l : List α) : nth d (x :: l) 21 = nth d l 20 := by simp [nth]
theorem nth_22 {α : Type} (d x : α) (l : List α) : nth d (x :: l) 22 = nth d l 21 := by simp [nth]
theorem nth_23 {α : Type} (d x : α) (l : List α) : nth d (x :: l) 23 = nth d l 22 := by simp [nth]
theorem nth_24 {α : Type} (d x : α) (l : List α) : nth d (x :: l) 24 = nth d l 23 := by simp [nth]
theorem nth_25 {α : Type} (d x : α) (l : List α) : nth d (x :: l) 25 = nth d l 24 := by simp [nth]
theorem nth_26 {α : Type} (d x : α) (l : List α) : nth d (x :: l) 26 = nth d l 25 := by simp [nth]
theorem nth_27 {α : Type} (d x : α) (l : List α) : nth d (x :: l) 27 = nth d l 26 := by simp [nth]
theorem nth_28 {α : Type} (d x : α) (l : List α) : nth d (x :: l) 28 = nth d l 27 := by simp [nth]
theorem nth_29 {α : Type} (d x : α) (l : List α) : nth d (x :: l) 29 = nth d l 28 := by simp [nth]
theorem nth_30 {α : Type} (d x : α) (l : List α) : nth d (x :: l) 30 = nth d l 29 := by simp [nth]
theorem nth_31 {α : Type} (d x : α) (l : List α) : nth d (x :: l) 31 = nth d l 30 := by simp [nth]
theorem nth_32 {α : Type} (d x : α) (l : List α) : nth d (x :: l) 32 = nth d l 31 := by simp [nth]
theorem nth_33 {α : Type} (d x : α) (l : List α) : nth d (x :: l) 33 = nth d l 32 := by simp [nth]
theorem nth_34 {α : Type} (d x : α) (l : List α) : nth d (x :: l) 34 = nth d l 33 := by simp [nth]
theorem nth_35 {α : Type} (d x : α) (l : List α) : nth d (x :: l) 35 = nth d l 34 := by simp [nth]
theorem nth_36 {α : Type} (d x : α) (l : List α) : nth d (x :: l) 36 = nth d l 35 := by simp [nth]
theorem nth_37 {α : Type} (d x : α) (l : List α) : nth d (x :: l) 37 = nth d l 36 := by simp [nth]
theorem nth_38 {α : Type} (d x : α) (l : List α) : nth d (x :: l) 38 = nth d l 37 := by simp [nth]
theorem nth_39 {α : Type} (d x : α) (l : List α) : nth d (x :: l) 39 = nth d l 38 := by simp [nth]
attribute [go_sem] Qjm nth_1 nth_2 nth_3 nth_4 nth_5 nth_6 nth_7 nth_8 nth_9 nth_10 nth_11 nth_12 nth_13 nth_14 nth_15 nth_16 nth_17 nth_18 nth_19 nth_20 nth_21 nth_22 nth_23 nth_24 nth_25 nth_26 nth_27 nth_28 nth_29 nth_30 nth_31 nth_32 nth_33 nth_34 nth_35 nth_36 nth_37 nth_38 nth_39 Qiz boolOf_bool rowsOf_view Option.bind_some
theorem loop_nat {S : Type} {step : List AC -> Option (Nat × List AC)} (enc : S -> List AC) (Inv : S -> Prop) (m : S -> Nat) (Q : Nat × List AC -> Prop)
  (h : ∀ s, Inv s -> (∃ s', step (enc s) = some (0, enc s') /\ Inv s' /\ m s' < m s) \/ ∃ o, step (enc s) = some o /\ o.1 ≠ 0 /\ Q o) :
  ∀ s, Inv s -> ∃ o, Qb1 step (enc s) = some o /\ o.1 ≠ 0 /\ Q o := by
 have : ∀ n s, m s <= n -> Inv s -> ∃ o, Qb1 step (enc s) = some o /\ o.1 ≠ 0 /\ Q o := by
  intro n
  induction n with
  | zero =>
   intro s hs hi
   rcases h s hi with ⟨s', h1, h2, h3⟩ | ⟨o, h1, h2, h3⟩
   ·omega
   ·refine ⟨o, ?_, h2, h3⟩
    rw [loopC_eq, h1]; simp [h2]
  | succ n ih =>
   intro s hs hi
   rcases h s hi with ⟨s', h1, h2, h3⟩ | ⟨o, h1, h2, h3⟩
   ·obtain ⟨o, h4, h5⟩ := ih s' (by omega) h2
    refine ⟨o, ?_, h5⟩
    rw [loopC_eq, h1]; simpa using h4
   ·refine ⟨o, ?_, h2, h3⟩
    rw [loopC_eq, h1]; simp [h2]
 intro s hi
 exact this _ s (Nat.le_refl _) hi

theorem Qb8 {step : List AC -> Option (Nat × List AC)} {v w : List AC} (h : step v = some (0, w)) : Qb1 step v = Qb1 step w := by
 rw [loopC_eq, h]; rfl
theorem Qcj {step : List AC -> Option (Nat × List AC)} {v : List AC} {o : Nat × List AC} (h : step v = some o) (h0 : o.1 ≠ 0) : Qb1 step v = some o := by
 rw [loopC_eq, h]; simp [h0]

theorem spOf_law {sig osig : Sk} {m : List AC -> Option (List AC)} {args : List TV} {vars : List AC} (h1 : readS sig ⟨args, [], []⟩ = some vars) (h2 : m vars = some [B true]) (h3 : Qkv osig [B true] = ⟨[.v false [.bool true]], [], []⟩) :
  (spOf sig osig m (TV × Mem) args ⟨[], []⟩ fun v m => some (v, m)) = some (.v false [.bool true], ⟨[], []⟩) := by
 simp only [spOf, allB, cond_true]
 rw [h1]
 dsimp only
 rw [h2]
 simp only [Option.bind_some]
 rw [h3]
theorem Ar.tv_of {a : Ar} {g : Bool} {ks : List Kd} (h1 : a.agg = g) (h2 : a.ks = ks) : a.tv = .v g (Qis ks a.raw) := by unfold Ar.tv; rw [h1, h2]
theorem nth_map {α : Type} (f : α -> List AC) (d : List AC) : ∀ (l : List α) (i : Nat) (h : i < l.length), nth d (l.map f) i = f l[i]
 | x :: l, 0, _ => rfl
 | x :: l, i + 1, h => by simp only [List.map_cons, nth, List.getElem_cons_succ]; exact nth_map f d l i (by simpa using h)
theorem nth_get {α : Type} (d : α) : ∀ (l : List α) (i : Nat) (h : i < l.length), nth d l i = l[i]
 | x :: l, 0, _ => rfl
 | x :: l, i + 1, h => by simp only [nth, List.getElem_cons_succ]; exact nth_get d l i (by simpa using h)
theorem Qfd {α : Type} (l : List α) (i : Nat) (h : i < l.length) : l.drop i = l[i] :: l.drop (i + 1) := by simp
end Go.Bm
