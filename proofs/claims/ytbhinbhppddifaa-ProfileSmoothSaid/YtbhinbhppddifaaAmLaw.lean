/- The abstract machine: what every seat's laws need. -/
import Derived.Test.YtbhinbhppddifaaAmCall
import Derived.Test.YtbhinbhppddifaaAmRow
namespace Go.Am

def lookS (l : List (Nat × (List TV → Option (Bool × TV)))) (f : FuncId) : Option (List TV → Option (Bool × TV)) := look l f
def callableB (P : Program) (f : FuncId) : Bool := match P.funcs[f]? with
  | some fn => !(fn.name == "runtime.NumGoroutine") && fn.body.isSome
  | none => false
theorem callable_of {P : Program} {f : FuncId} (h : callableB P f = true) : Callable P f := by
  unfold callableB at h
  split at h
  · rename_i fn hf
    simp only [Bool.and_eq_true, Bool.not_eq_true'] at h
    exact ⟨fn, hf, h.1, by cases hb : fn.body <;> simp_all⟩
  · cases h
theorem look_mem {α : Type} : ∀ (l : List (Nat × α)) (f : Nat) (g : α), look l f = some g → (f, g) ∈ l
  | [], _, _, h => by simp [look] at h
  | (k, b) :: l, f, g, h => by
    unfold look at h
    cases hb : Nat.beq k f <;> rw [hb] at h
    · exact List.mem_cons_of_mem _ (look_mem l f g h)
    · simp at h; subst h
      rw [Nat.eq_of_beq_eq_true hb]; simp
def RowOK (P : Program) (p : Nat × (List TV → Option (Bool × TV))) : Prop := Callable P p.1 ∧ ∀ (args : List TV) (v : TV), p.2 args = some (true, v) → PCall P p.1 args v
theorem RowOK.mk {P : Program} {f : Nat} {g : List TV → Option (Bool × TV)} (h : callableB P f = true) (h' : ∀ (args : List TV) (v : TV), g args = some (true, v) → PCall P f args v) : RowOK P (f, g) := ⟨callable_of h, h'⟩
def AllOK (P : Program) : List (Nat × (List TV → Option (Bool × TV))) → Prop
  | [] => True
  | p :: l => RowOK P p ∧ AllOK P l
theorem AllOK.mem {P : Program} : ∀ {l : List (Nat × (List TV → Option (Bool × TV)))}, AllOK P l → ∀ p ∈ l, RowOK P p
  | _ :: l, h, p, hp => by
    rcases List.mem_cons.1 hp with rfl | hp
    · exact h.1
    · exact AllOK.mem h.2 p hp
theorem specOK_of {P : Program} {C : Cfg} {l : List (Nat × (List TV → Option (Bool × TV)))} (hC : C.spec = lookS l) (h : AllOK P l) : SpecOK P C := by
  intro f g hg
  rw [hC] at hg
  exact h.mem _ (look_mem l f g hg)

theorem wrap_id {x : Int} (h : -9223372036854775808 ≤ x ∧ x ≤ 9223372036854775807) : IntKind.i64.wrap x = x := by
  simp [IntKind.wrap, IntKind.signed, IntKind.bits]
  omega

noncomputable def dec (p : Prop) : Bool := @decide p (Classical.propDecidable p)
theorem dec_true {p : Prop} (h : p) : dec p = true := @decide_eq_true p (Classical.propDecidable p) h
theorem of_dec {p : Prop} (h : dec p = true) : p := @of_decide_eq_true p (Classical.propDecidable p) h

/-- the slots of a loop's head -/
def mkT : Nat → Nat → List (Nat × Bool × Nat) → List (Option (Bool × Nat))
  | 0, _, _ => []
  | n + 1, i, l => look l i :: mkT n (i + 1) l

theorem ars_cons {l : List Ar} {s : Sh} {shs : List Sh} (h : l.map Ar.sh = s :: shs) : ∃ a l', l = a :: l' ∧ a.sh = s ∧ l'.map Ar.sh = shs := by
  cases l with
  | nil => simp at h
  | cons a l' =>
    simp only [List.map_cons, List.cons.injEq] at h
    exact ⟨a, l', rfl, h.1, h.2⟩
theorem ars_nil {l : List Ar} (h : l.map Ar.sh = []) : l = [] := by
  cases l with
  | nil => rfl
  | cons a l' => simp at h
theorem sh_flat {a : Ar} {g : Bool} {ks : List Kd} (h : a.sh = .flat g ks) : ∃ gi gb, a = .flat g ks gi gb := by
  cases a with
  | flat g' ks' gi gb =>
    simp only [Ar.sh, Sh.flat.injEq] at h
    obtain ⟨rfl, rfl⟩ := h
    exact ⟨gi, gb, rfl⟩
  | sl => simp [Ar.sh] at h
theorem sh_sl {a : Ar} {ks : List Kd} (h : a.sh = .sl ks) : ∃ n gi gb, a = .sl ks n gi gb := by
  cases a with
  | flat => simp [Ar.sh] at h
  | sl ks' n gi gb =>
    simp only [Ar.sh, Sh.sl.injEq] at h
    subst h
    exact ⟨n, gi, gb, rfl⟩

section
variable {H α : Type}
theorem spec1 (F G : List (DataW H) → α) (h : ∀ a, F [a] = G [a]) (l : List (DataW H)) (hl : l.length = 1) : F l = G l := by
  match l, hl with
  | [a], _ => exact h a
theorem spec2 (F G : List (DataW H) → α) (h : ∀ a b, F [a, b] = G [a, b]) (l : List (DataW H)) (hl : l.length = 2) : F l = G l := by
  match l, hl with
  | [a, b], _ => exact h a b
theorem spec3 (F G : List (DataW H) → α) (h : ∀ a b c, F [a, b, c] = G [a, b, c]) (l : List (DataW H)) (hl : l.length = 3) : F l = G l := by
  match l, hl with
  | [a, b, c], _ => exact h a b c
theorem spec4 (F G : List (DataW H) → α) (h : ∀ a b c d, F [a, b, c, d] = G [a, b, c, d]) (l : List (DataW H)) (hl : l.length = 4) : F l = G l := by
  match l, hl with
  | [a, b, c, d], _ => exact h a b c d
theorem spec5 (F G : List (DataW H) → α) (h : ∀ a b c d e, F [a, b, c, d, e] = G [a, b, c, d, e]) (l : List (DataW H)) (hl : l.length = 5) : F l = G l := by
  match l, hl with
  | [a, b, c, d, e], _ => exact h a b c d e
end
end Go.Am
