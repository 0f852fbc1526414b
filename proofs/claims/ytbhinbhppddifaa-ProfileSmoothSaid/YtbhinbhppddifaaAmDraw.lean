/- The abstract machine: a region that draws its order: every order comes to what the text's order comes to. -/
import Derived.Test.YtbhinbhppddifaaAmCode
namespace Go.Am
open Go.RowKit

def putS (s : St) (d : Option Tmp) (v : TV) : St :=
  match d with
  | none => s
  | some t => ⟨setL s.tmps t v, s.boxes, s.rows⟩

section
variable {P : Program} {C : Cfg} {w w0 : World} {R : Type} {B : Nat} {I0 : Nat → Prop}

theorem putS_eq (s : St) (d : Option Tmp) (v : TV) (K : St → Option R) : put s d v K = K (putS s d v) := put_eq s d v K

/-- the memory's part of a simple step -/
def memS (dst : Option Tmp) (p : Prim) (boxes : List (Nat × Box)) (rows : List (Nat × Row)) : Option (TV × List (Nat × Box)) :=
  match p with
  | .val v => some (v, boxes)
  | .load g sz key off => match look boxes key with
    | some b => match valueAt g sz b.cells off with
      | some v => some (v, boxes)
      | none => none
    | none => none
  | .store key off cs => match look boxes key with
    | some b => if Nat.ble (off + cs.length) b.cells.length then some (.dead, upd boxes key ⟨b.ty, splice b.cells off cs⟩) else none
    | none => none
  | .new ty cs => match dst with
    | some d => match look boxes d with
      | some _ => none
      | none => some (.c (.ptr d 0), ins boxes d ⟨ty, cs⟩)
    | none => none
  | .newView _ w n f => some (.c (.view n w f), boxes)
  | .call f args => match C.spec f with
    | some g => match resArgs rows args with
      | some l => match g l with
        | some (ok, v) => if (((!(args.any TV.hasOwn) || v.flat) && v.plainB) && ok) = true then some (v, boxes) else none
        | none => none
      | none => none
    | none => none
  | _ => none

theorem memS_eq {dst : Option Tmp} {p : Prim} (hs : Prim.simple (some p) = true) (s : St) (K : TV → St → Option R) :
    memK C dst p s K = (memS (C := C) dst p s.boxes s.rows).bind fun q => K q.1 ⟨s.tmps, q.2, s.rows⟩ := by
  obtain ⟨tm, boxes, rows⟩ := s
  cases p <;> simp only [Prim.simple] at hs <;> try (simp at hs; done)
  case val v => rfl
  case newView e w n f => rfl
  case load g sz key off =>
    simp only [memK, memS]
    cases h1 : look boxes key with
    | none => rfl
    | some b =>
      dsimp only
      cases h2 : valueAt g sz b.cells off <;> rfl
  case store key off cs =>
    simp only [memK, memS]
    cases h1 : look boxes key with
    | none => rfl
    | some b =>
      dsimp only
      cases Nat.ble (off + cs.length) b.cells.length
      · rfl
      · simp only [cond_true, forceL_eq, if_true, Option.bind_some]
  case new ty cs =>
    simp only [memK, memS]
    cases dst with
    | none => rfl
    | some d =>
      dsimp only
      cases h1 : look boxes d with
      | some _ => rfl
      | none => simp only [forceL_eq, Option.bind_some]
  case call f args =>
    simp only [memK, memS]
    cases h1 : C.spec f with
    | none => rfl
    | some g =>
      dsimp only
      cases h2 : resArgs rows args with
      | none => rfl
      | some l =>
        dsimp only
        cases h3 : g l with
        | none => rfl
        | some q =>
          obtain ⟨ok, v⟩ := q
          dsimp only
          cases ((!(args.any TV.hasOwn) || v.flat) && v.plainB)
          · rfl
          · cases ok <;> rfl

theorem memK_some {dst : Option Tmp} {p : Prim} {s : St} {K : TV → St → Option R} {r : R} (h : memK C dst p s K = some r) : ∃ v s', K v s' = some r := by
  obtain ⟨tm, boxes, rows⟩ := s
  cases p <;> simp only [memK] at h
  case val v => exact ⟨_, _, h⟩
  case newView e w n f => exact ⟨_, _, h⟩
  case load g sz key off =>
    repeat' split at h
    all_goals first | (simp at h; done) | exact ⟨_, _, h⟩
  case store key off cs =>
    split at h
    · rename_i b _
      cases hb : Nat.ble (off + cs.length) b.cells.length <;> rw [hb] at h
      · simp at h
      · simp only [cond_true, forceL_eq] at h; exact ⟨_, _, h⟩
    · simp at h
  case new ty cs =>
    split at h
    · split at h
      · simp at h
      · simp only [forceL_eq] at h; exact ⟨_, _, h⟩
    · simp at h
  case rload g sz id idx sub =>
    repeat' split at h
    all_goals first | (simp at h; done) | exact ⟨_, _, h⟩
  case rstore id idx sub cs =>
    split at h
    · rename_i r0 _
      cases hb : (Nat.ble (sub + cs.length) r0.w && allB AC.plain cs) <;> rw [hb] at h
      · simp at h
      · simp only [cond_true, forceL_eq] at h; exact ⟨_, _, h⟩
    · simp at h
  case newRow e w n f =>
    split at h
    · split at h
      · simp at h
      · simp only [forceL_eq] at h; exact ⟨_, _, h⟩
    · simp at h
  case append e w bytes s x =>
    split at h
    · rename_i m g _
      split at h
      · split at h
        · split at h
          · simp at h
          · cases hb : (Nat.ble 1 w && Nat.ble 1 bytes) <;> rw [hb] at h
            · simp at h
            · simp only [cond_true] at h
              cases hb2 : Nat.ble (m * bytes) 140737488355328 <;> rw [hb2] at h
              · simp at h
              · simp only [cond_true, forceL_eq] at h; exact ⟨_, _, h⟩
        · simp at h
      · split at h
        · rename_i r0 _
          cases hb : (Nat.beq r0.w w && Nat.beq r0.ty e && Nat.ble 1 bytes) <;> rw [hb] at h
          · simp at h
          · simp only [cond_true] at h
            cases hb2 : Nat.ble ((r0.n + m) * bytes) 140737488355328 <;> rw [hb2] at h
            · simp at h
            · simp only [cond_true, forceL_eq] at h; exact ⟨_, _, h⟩
        · simp at h
      · simp at h
    · simp at h
  case call f args =>
    split at h
    · split at h
      · split at h
        · rename_i ok v _
          cases hb : ((!(args.any TV.hasOwn) || v.flat) && v.plainB) <;> rw [hb] at h
          · simp at h
          · cases ok
            · simp at h
            · exact ⟨_, _, h⟩
        · simp at h
      · simp at h
    · simp at h

/-- one step, straight -/
def want? (ops : List Oper) (o : Oper) (tm : List TV) : Option Bool :=
  match o.guard with
  | none => some true
  | some (j, want) => match ops[j]? with
    | some oj => match oj.dst with
      | some t => match nth .dead tm t with
        | .c (.bool g) => some (g == want)
        | .tup [] => some false
        | _ => none
      | none => none
    | none => none

def stepS (ops : List Oper) (o : Oper) (s : St) : Option (Option Prim × St) :=
  match want? ops o s.tmps with
  | some true => (opK P C (evOf s.tmps) o.op some).bind fun p => (memS (C := C) o.dst p s.boxes s.rows).bind fun q => some (some p, putS ⟨s.tmps, q.2, s.rows⟩ o.dst q.1)
  | some false => some (none, putS s o.dst (.tup []))
  | none => none

theorem setL_self {tm : List TV} {t : Nat} {v : TV} (h : nth .dead tm t = v) (hv : v ≠ .dead) : setL tm t v = tm := by
  rw [nth_eq, List.getD] at h
  rw [setL_eq]
  cases ht : tm[t]? with
  | none => rw [ht] at h; simp at h; exact absurd h.symm hv
  | some u =>
    rw [ht] at h
    simp at h; subst h
    apply List.ext_getElem?
    intro i
    rw [List.getElem?_set]
    split
    · rename_i e; subst e
      split
      · exact ht.symm
      · rename_i hlt; rw [List.getElem?_eq_none (by omega)]
    · rfl

theorem operK_eq {ops : List Oper} {o : Oper} {s : St} {K : Option Prim → St → Option R} {r : R} (h : operK P C ops o s K = some r) :
    (∃ p s', stepS (P := P) (C := C) ops o s = some (p, s') ∧ K p s' = some r) ∨ (∃ p s', K (some p) s' = some r ∧ Prim.simple (some p) = false) := by
  have hrun : ∀ s1 : St, want? ops o s.tmps = some true → s1 = s → (opK P C (evOf s1.tmps) o.op fun p => memK C o.dst p s1 fun v s' => put s' o.dst v (K (some p))) = some r →
      (∃ p s', stepS (P := P) (C := C) ops o s = some (p, s') ∧ K p s' = some r) ∨ (∃ p s', K (some p) s' = some r ∧ Prim.simple (some p) = false) := by
    rintro s1 hw rfl h
    rw [opK_bind] at h
    cases hp : opK P C (evOf s1.tmps) o.op some with
    | none => rw [hp] at h; simp at h
    | some p =>
      rw [hp] at h
      simp only [Option.bind_some] at h
      cases hs : Prim.simple (some p)
      · right
        obtain ⟨v, s', hk⟩ := memK_some h
        rw [putS_eq] at hk
        exact ⟨p, _, hk, hs⟩
      · left
        rw [memS_eq hs] at h
        cases hm : memS (C := C) o.dst p s1.boxes s1.rows with
        | none => rw [hm] at h; simp at h
        | some q =>
          rw [hm] at h
          simp only [Option.bind_some, putS_eq] at h
          refine ⟨some p, _, ?_, h⟩
          simp only [stepS, hw, hp, Option.bind_some, hm]
  have hskip : ∀ s1 : St, want? ops o s.tmps = some false → s1 = s → put s1 o.dst (.tup []) (K none) = some r →
      (∃ p s', stepS (P := P) (C := C) ops o s = some (p, s') ∧ K p s' = some r) ∨ (∃ p s', K (some p) s' = some r ∧ Prim.simple (some p) = false) := by
    rintro s1 hw rfl h
    rw [putS_eq] at h
    exact .inl ⟨none, _, by simp only [stepS, hw], h⟩
  unfold operK guardK at h
  cases hg : o.guard with
  | none =>
    rw [hg] at h
    exact hrun s (by simp [want?, hg]) rfl h
  | some jw =>
    obtain ⟨j, want⟩ := jw
    rw [hg] at h
    simp only at h
    split at h
    · rename_i oj hj
      split at h
      · rename_i t ht
        split at h
        · rename_i g hgv
          have hw : want? ops o s.tmps = some (g == want) := by simp only [want?, hg, hj, ht, hgv]
          have hself : ∀ b, g = b → (⟨setL s.tmps t (.c (.bool b)), s.boxes, s.rows⟩ : St) = s := by
            rintro b rfl
            rw [setL_self hgv (by simp)]
          cases g
          · simp only [cond_false] at h
            rw [put_eq] at h
            dsimp only at h
            cases want
            · exact hrun _ (by rw [hw]; rfl) (hself false rfl) h
            · exact hskip _ (by rw [hw]; rfl) (hself false rfl) h
          · simp only [cond_true] at h
            rw [put_eq] at h
            dsimp only at h
            cases want
            · exact hskip _ (by rw [hw]; rfl) (hself true rfl) h
            · exact hrun _ (by rw [hw]; rfl) (hself true rfl) h
        · rename_i hgv
          exact hskip _ (by simp only [want?, hg, hj, ht, hgv]) rfl h
        · simp at h
      · simp at h
    · simp at h

/-- the canonical run of the rest of a region -/
def runC (P : Program) (C : Cfg) (ops : List Oper) : List (Nat × Oper × Option Prim) → St → St → Prop
  | [], s, s' => s = s'
  | (_, o, p) :: l, s, s' => ∃ s1, stepS (P := P) (C := C) ops o s = some (p, s1) ∧ runC P C ops l s1 s'

theorem drawK_runC {ops : List Oper} : ∀ (l : List Oper) (i : Nat) (s : St) (K : List (Oper × Option Prim) → St → Option R) (r : R), drawK P C ops l s K = some r →
    (∃ (ps : List (Nat × Oper × Option Prim)) (sf : St), ps.map (·.2.1) = l ∧ ps.map (·.1) = List.range' i l.length ∧ runC P C ops ps s sf ∧ K (ps.map (·.2)) sf = some r) ∨
    (∃ (acc : List (Oper × Option Prim)) (sf : St), K acc sf = some r ∧ ∃ q ∈ acc, Prim.simple q.2 = false)
  | [], i, s, K, r, h => .inl ⟨[], s, rfl, rfl, rfl, h⟩
  | o :: l, i, s, K, r, h => by
    simp only [drawK] at h
    rcases operK_eq h with ⟨p, s1, h1, h2⟩ | ⟨p, s1, h1, h2⟩
    · rcases drawK_runC l (i + 1) s1 _ r h2 with ⟨ps, sf, q1, q2, q3, q4⟩ | ⟨acc, sf, q1, q, q2, q3⟩
      · exact .inl ⟨(i, o, p) :: ps, sf, by simp [q1], by simp [q2, List.range'_succ], ⟨s1, h1, q3⟩, q4⟩
      · exact .inr ⟨_, sf, q1, q, by simp [q2], q3⟩
    · rcases drawK_runC l (i + 1) s1 _ r h1 with ⟨ps, sf, q1, q2, q3, q4⟩ | ⟨acc, sf, q1, q, q2, q3⟩
      · exact .inr ⟨_, sf, q4, (o, some p), by simp, h2⟩
      · exact .inr ⟨_, sf, q1, q, by simp [q2], q3⟩
end
end Go.Am
