/- The abstract machine: two steps of a region that have no order between them change places. -/
import Derived.Test.YtbhinbhppddifaaAmDraw
set_option linter.unusedSimpArgs false
namespace Go.Am
open Go.RowKit

section
variable {P : Program} {C : Cfg} {w w0 : World} {R : Type} {B : Nat} {I0 : Nat → Prop}

theorem evalL_congr {ev ev' : Operand → TV} : ∀ (l : List Operand), (∀ x ∈ l, ev x = ev' x) → evalL ev l = evalL ev' l
  | [], _ => rfl
  | x :: l, h => by simp only [evalL]; rw [h x (by simp), evalL_congr l fun y hy => h y (by simp [hy])]

theorem evalP_congr {ev ev' : Operand → TV} : ∀ (l : List (Nat × Operand)), (∀ p ∈ l, ev p.2 = ev' p.2) → evalP ev l = evalP ev' l
  | [], _ => rfl
  | x :: l, h => by simp only [evalP]; rw [h x (by simp), evalP_congr l fun y hy => h y (by simp [hy])]

theorem optInt_congr {ev ev' : Operand → TV} (o : Option Operand) (h : ∀ x, o = some x → ev x = ev' x) : optInt ev o = optInt ev' o := by
  cases o with
  | none => rfl
  | some x => simp only [optInt]; rw [h x rfl]

theorem opK_congr {ev ev' : Operand → TV} {o : Op} (h : ∀ x ∈ o.operands, ev x = ev' x) (K : Prim → Option R) : opK P C ev o K = opK P C ev' o K := by
  cases o <;> simp only [Op.operands] at h <;> simp only [opK]
  case move x => rw [h x (by simp)]
  case assign x => rw [h x (by simp)]
  case pick c a b => rw [h c (by simp), h a (by simp), h b (by simp)]
  case box t x => rw [h x (by simp)]
  case build t parts => rw [evalP_congr parts.toList fun p hp => h p.2 (by simp; exact ⟨p.1, by simpa using hp⟩)]
  case buildSlice t n parts => rw [evalP_congr parts.toList fun p hp => h p.2 (by simp; exact ⟨p.1, by simpa using hp⟩)]
  case load t a => rw [h a (by simp)]
  case store t a x => rw [h a (by simp), h x (by simp)]
  case nilCheck x => rw [h x (by simp)]
  case binOp op t x y _ => rw [h x (by simp), h y (by simp)]
  case unOp op t x => rw [h x (by simp)]
  case convert s d x => rw [h x (by simp)]
  case fieldAddr t x i => rw [h x (by simp)]
  case field t x i => rw [h x (by simp)]
  case indexAddr t x ix => rw [h x (by simp), h ix (by simp)]
  case index t x ix => rw [h x (by simp), h ix (by simp)]
  case slice t x lo hi mx =>
    rw [h x (by simp), optInt_congr lo fun y hy => h y (by simp [hy]), optInt_congr hi fun y hy => h y (by simp [hy])]
  case extract t i => rw [h t (by simp)]
  case call c =>
    have ha : evalL ev c.args.toList = evalL ev' c.args.toList := evalL_congr _ fun x hx => h x (by simp only [Call.operands]; exact Array.mem_append.2 (.inr (by simpa using hx)))
    rw [ha]

theorem evOf_setL {tm : List TV} {d : Nat} {v : TV} {x : Operand} (h : x ≠ .tmp d) : evOf (setL tm d v) x = evOf tm x := by
  cases x with
  | tmp t =>
    have hne : d ≠ t := fun e => h (by rw [e])
    simp only [evOf, nth_eq, List.getD, setL_eq, List.getElem?_set, if_neg hne]
  | _ => rfl

def putT (tm : List TV) (d : Option Tmp) (v : TV) : List TV :=
  match d with
  | none => tm
  | some t => setL tm t v

theorem putS_mk (tm : List TV) (bx : List (Nat × Box)) (rows : List (Nat × Row)) (d : Option Tmp) (v : TV) : putS ⟨tm, bx, rows⟩ d v = ⟨putT tm d v, bx, rows⟩ := by cases d <;> rfl

theorem putT_comm {tm : List TV} {d e : Option Tmp} (v u : TV) (h : ∀ t, d = some t → e ≠ some t) : putT (putT tm d v) e u = putT (putT tm e u) d v := by
  cases d with
  | none => rfl
  | some t =>
    cases e with
    | none => rfl
    | some q =>
      have hne : t ≠ q := fun x => h t rfl (by rw [x])
      simp only [putT, setL_eq]
      exact List.set_comm _ _ hne

/-- a step without its last act -/
def coreS (P : Program) (C : Cfg) (ops : List Oper) (o : Oper) (tm : List TV) (bx : List (Nat × Box)) (rows : List (Nat × Row)) : Option (Option Prim × TV × List (Nat × Box)) :=
  match want? ops o tm with
  | some true => (opK P C (evOf tm) o.op some).bind fun p => (memS (C := C) o.dst p bx rows).bind fun q => some (some p, q.1, q.2)
  | some false => some (none, .tup [], bx)
  | none => none

theorem stepS_core {ops : List Oper} {o : Oper} {tm : List TV} {bx : List (Nat × Box)} {rows : List (Nat × Row)} :
    stepS (P := P) (C := C) ops o ⟨tm, bx, rows⟩ = (coreS P C ops o tm bx rows).bind fun q => some (q.1, ⟨putT tm o.dst q.2.1, q.2.2, rows⟩) := by
  unfold stepS coreS
  dsimp only
  cases hw : want? ops o tm with
  | none => rfl
  | some b =>
    cases b
    · simp only [Option.bind_some, putS_mk]
    · dsimp only
      cases opK P C (evOf tm) o.op some with
      | none => rfl
      | some p =>
        simp only [Option.bind_some]
        cases memS (C := C) o.dst p bx rows with
        | none => rfl
        | some q => simp only [Option.bind_some, putS_mk]

theorem want_congr {ops : Array Oper} {o : Oper} {tm : List TV} {d : Option Tmp} {v : TV} (h : ∀ t, d = some t → t ∉ o.looksAt ops) : want? ops.toList o (putT tm d v) = want? ops.toList o tm := by
  cases d with
  | none => rfl
  | some t =>
    have hh := h t rfl
    unfold want?
    cases hg : o.guard with
    | none => rfl
    | some jw =>
      obtain ⟨j, want⟩ := jw
      dsimp only
      cases hj : ops.toList[j]? with
      | none => rfl
      | some oj =>
        dsimp only
        cases ht : oj.dst with
        | none => rfl
        | some q =>
          dsimp only
          have hj' : ops[j]? = some oj := by simpa using hj
          have hne : t ≠ q := by
            rintro rfl
            exact hh (by simp [Oper.looksAt, hg, hj', ht])
          have : nth .dead (putT tm (some t) v) q = nth .dead tm q := by
            simp only [putT, nth_eq, List.getD, setL_eq, List.getElem?_set, if_neg hne]
          rw [this]

theorem core_congr {ops : Array Oper} {o : Oper} {tm : List TV} {bx : List (Nat × Box)} {rows : List (Nat × Row)} {d : Option Tmp} {v : TV} (h : ∀ t, d = some t → t ∉ o.looksAt ops) :
    coreS P C ops.toList o (putT tm d v) bx rows = coreS P C ops.toList o tm bx rows := by
  unfold coreS
  rw [want_congr h]
  cases d with
  | none => rfl
  | some t =>
    have hh := h t rfl
    rw [show opK P C (evOf (putT tm (some t) v)) o.op some = opK P C (evOf tm) o.op some from opK_congr (fun x hx => evOf_setL (by
      rintro rfl
      exact hh (List.mem_append_left _ (List.mem_filterMap.2 ⟨.tmp t, by simpa using hx, rfl⟩)))) some]

theorem beq_false {a b : Nat} (h : a ≠ b) : Nat.beq a b = false := by
  cases hb : Nat.beq a b
  · rfl
  · exact absurd (Nat.eq_of_beq_eq_true hb) h

theorem upd_comm {α : Type} : ∀ (l : List (Nat × α)) (k j : Nat) (x y : α), k ≠ j → upd (upd l k x) j y = upd (upd l j y) k x
  | [], _, _, _, _, _ => rfl
  | (i, b) :: l, k, j, x, y, h => by
    by_cases h1 : i = k
    · subst h1
      simp only [upd, Nat.beq_refl, cond_true, beq_false h, cond_false]
    · by_cases h2 : i = j
      · subst h2
        simp only [upd, Nat.beq_refl, cond_true, beq_false h1, cond_false]
      · simp only [upd, beq_false h1, beq_false h2, cond_false]
        rw [upd_comm l k j x y h]

theorem blt_true {a b : Nat} (h : a < b) : Nat.blt a b = true := by simpa using h
theorem blt_false {a b : Nat} (h : ¬ a < b) : Nat.blt a b = false := by
  cases hb : Nat.blt a b
  · rfl
  · simp at hb; omega

theorem ins_comm {α : Type} : ∀ (l : List (Nat × α)) (k j : Nat) (x y : α), k ≠ j → ins (ins l k x) j y = ins (ins l j y) k x
  | [], k, j, x, y, h => by
    by_cases h1 : j < k
    · simp only [ins, blt_true h1, cond_true, blt_false (show ¬ k < j by omega), cond_false]
    · simp only [ins, blt_false h1, cond_false, blt_true (show k < j by omega), cond_true]
  | (i, b) :: l, k, j, x, y, h => by
    by_cases h1 : k < i <;> by_cases h2 : j < i
    · by_cases h3 : j < k
      · simp only [ins, blt_true h1, blt_true h2, blt_true h3, blt_false (show ¬ k < j by omega), cond_true, cond_false]
      · simp only [ins, blt_true h1, blt_true h2, blt_false h3, blt_true (show k < j by omega), cond_true, cond_false]
    · simp only [ins, blt_true h1, blt_false h2, blt_false (show ¬ j < k by omega), cond_true, cond_false]
    · simp only [ins, blt_false h1, blt_true h2, blt_false (show ¬ k < j by omega), cond_true, cond_false]
    · simp only [ins, blt_false h1, blt_false h2, cond_false]
      rw [ins_comm l k j x y h]

theorem ins_upd_comm {α : Type} : ∀ (l : List (Nat × α)) (k j : Nat) (x y : α), k ≠ j → upd (ins l k x) j y = ins (upd l j y) k x
  | [], k, j, x, y, h => by simp only [ins, upd, beq_false h, cond_false]
  | (i, b) :: l, k, j, x, y, h => by
    by_cases h1 : k < i <;> by_cases h2 : i = j
    · subst h2; simp only [ins, upd, blt_true h1, beq_false h, Nat.beq_refl, cond_true, cond_false]
    · simp only [ins, upd, blt_true h1, beq_false h, beq_false h2, cond_true, cond_false]
    · subst h2; simp only [ins, upd, blt_false h1, Nat.beq_refl, cond_true, cond_false]
    · simp only [ins, upd, blt_false h1, beq_false h2, cond_false]
      rw [ins_upd_comm l k j x y h]

theorem memS_swap {di dj : Option Tmp} {pi pj : Prim} {bx bx1 bx2 : List (Nat × Box)} {rows : List (Nat × Row)} {vi vj : TV} (hi : memS (C := C) di pi bx rows = some (vi, bx1)) (hj : memS (C := C) dj pj bx1 rows = some (vj, bx2))
    (hm : Prim.meet (some pi) (some pj) = false) (hd : ∀ t, di = some t → dj ≠ some t) (hwf : Prim.wf bx rows pj) :
    ∃ bx1', memS (C := C) dj pj bx rows = some (vj, bx1') ∧ memS (C := C) di pi bx1' rows = some (vi, bx2) := by
  have hne : ∀ {a b : Nat}, Nat.beq a b = false → a ≠ b := fun h e => by subst e; simp at h
  cases pi <;> simp only [memS] at hi <;> try (simp at hi; done)
  case val v => simp at hi; obtain ⟨rfl, rfl⟩ := hi; exact ⟨bx2, hj, rfl⟩
  case newView e w n f => simp at hi; obtain ⟨rfl, rfl⟩ := hi; exact ⟨bx2, hj, rfl⟩
  case call f args =>
    have hb : bx1 = bx := by
      repeat' split at hi
      all_goals first | (simp at hi; done) | (simp at hi; exact hi.2.symm)
    subst hb
    refine ⟨bx2, hj, ?_⟩
    simp only [memS]
    repeat' split at hi
    all_goals first | (simp at hi; done) | skip
    rename_i h1 _ _ h2 _ _ _ h3 h4
    simp at hi; obtain ⟨rfl, _⟩ := hi
    simp only [h1, h2, h3, h4, if_true]
  case load g sz key off =>
    cases h1 : look bx key with
    | none => rw [h1] at hi; simp at hi
    | some b =>
      rw [h1] at hi
      dsimp only at hi
      cases h2 : valueAt g sz b.cells off with
      | none => rw [h2] at hi; simp at hi
      | some v =>
        rw [h2] at hi; simp at hi
        obtain ⟨rfl, rfl⟩ := hi
        refine ⟨bx2, hj, ?_⟩
        have hl : look bx2 key = some b := by
          cases pj <;> simp only [memS] at hj <;> try (simp at hj; done)
          case val => simp at hj; rw [← hj.2]; exact h1
          case newView => simp at hj; rw [← hj.2]; exact h1
          case call =>
            repeat' split at hj
            all_goals first | (simp at hj; done) | (simp at hj; rw [← hj.2]; exact h1)
          case load =>
            repeat' split at hj
            all_goals first | (simp at hj; done) | (simp at hj; rw [← hj.2]; exact h1)
          case store k' o' cs' =>
            split at hj
            · split at hj
              · simp at hj; rw [← hj.2, look_upd_other _ _ _ _ (hne hm)]; exact h1
              · simp at hj
            · simp at hj
          case new ty cs =>
            split at hj
            · rename_i d
              split at hj
              · simp at hj
              · rename_i hn
                simp at hj
                rw [← hj.2, look_ins_other _ _ _ _ (by rintro rfl; rw [hn] at h1; simp at h1)]; exact h1
            · simp at hj
        simp only [memS, hl, h2]
  case store key off cs =>
    cases h1 : look bx key with
    | none => rw [h1] at hi; simp at hi
    | some b =>
      rw [h1] at hi
      dsimp only at hi
      split at hi
      · rename_i hle
        simp at hi
        obtain ⟨rfl, rfl⟩ := hi
        cases pj <;> simp only [memS] at hj <;> try (simp at hj; done)
        case val v => simp at hj; obtain ⟨rfl, rfl⟩ := hj; exact ⟨bx, rfl, by simp only [memS, h1, hle, if_true]⟩
        case newView e w n f => simp at hj; obtain ⟨rfl, rfl⟩ := hj; exact ⟨bx, rfl, by simp only [memS, h1, hle, if_true]⟩
        case call f args =>
          refine ⟨bx, ?_, ?_⟩
          · simp only [memS]
            repeat' split at hj
            all_goals first | (simp at hj; done) | skip
            rename_i q1 _ _ q2 _ _ _ q3 q4
            simp at hj; obtain ⟨rfl, _⟩ := hj
            simp only [q1, q2, q3, q4, if_true]
          · have : bx2 = upd bx key ⟨b.ty, splice b.cells off cs⟩ := by
              repeat' split at hj
              all_goals first | (simp at hj; done) | (simp at hj; exact hj.2.symm)
            subst this
            simp only [memS, h1, hle, if_true]
        case load g sz k' o' =>
          have hk := hne hm
          rw [look_upd_other _ _ _ _ (fun e => hk e.symm)] at hj
          refine ⟨bx, ?_, ?_⟩
          · simp only [memS]
            repeat' split at hj
            all_goals first | (simp at hj; done) | skip
            rename_i q1 _ _ q2
            simp at hj; obtain ⟨rfl, _⟩ := hj
            simp only [q1, q2]
          · have : bx2 = upd bx key ⟨b.ty, splice b.cells off cs⟩ := by
              repeat' split at hj
              all_goals first | (simp at hj; done) | (simp at hj; exact hj.2.symm)
            subst this
            simp only [memS, h1, hle, if_true]
        case store k' o' cs' =>
          have hk := hne hm
          rw [look_upd_other _ _ _ _ (fun e => hk e.symm)] at hj
          cases h2 : look bx k' with
          | none => rw [h2] at hj; simp at hj
          | some b' =>
            rw [h2] at hj
            dsimp only at hj
            split at hj
            · rename_i hle'
              simp at hj
              obtain ⟨rfl, rfl⟩ := hj
              refine ⟨upd bx k' ⟨b'.ty, splice b'.cells o' cs'⟩, by simp only [memS, h2, hle', if_true], ?_⟩
              simp only [memS]
              rw [look_upd_other _ _ _ _ hk, h1]
              simp only [hle, if_true]
              rw [upd_comm _ _ _ _ _ hk]
            · simp at hj
        case new ty cs' =>
          split at hj
          · rename_i d
            split at hj
            · simp at hj
            · rename_i hn
              simp at hj
              obtain ⟨rfl, rfl⟩ := hj
              have hkd : d ≠ key := by
                rintro rfl
                rw [look_upd_same _ _ _ _ h1] at hn; simp at hn
              rw [look_upd_other _ _ _ _ hkd] at hn
              refine ⟨ins bx d ⟨ty, cs'⟩, by simp only [memS, hn], ?_⟩
              simp only [memS]
              rw [look_ins_other _ _ _ _ (fun e => hkd e.symm), h1]
              simp only [hle, if_true]
              rw [ins_upd_comm _ _ _ _ _ hkd]
          · simp at hj
      · simp at hi
  case new ty cs =>
    cases hdi : di with
    | none => rw [hdi] at hi; simp at hi
    | some d =>
      rw [hdi] at hi
      dsimp only at hi
      cases h1 : look bx d with
      | some _ => rw [h1] at hi; simp at hi
      | none =>
        rw [h1] at hi
        simp at hi
        obtain ⟨rfl, rfl⟩ := hi
        have hnew : ∀ bb, look bb d = none → memS (C := C) (some d) (.new ty cs) bb rows = some (.c (.ptr d 0), ins bb d ⟨ty, cs⟩) := by
          intro bb hb; simp only [memS, hb]
        cases pj <;> simp only [memS] at hj <;> try (simp at hj; done)
        case val v => simp at hj; obtain ⟨rfl, rfl⟩ := hj; exact ⟨bx, rfl, hnew bx h1⟩
        case newView e w n f => simp at hj; obtain ⟨rfl, rfl⟩ := hj; exact ⟨bx, rfl, hnew bx h1⟩
        case call f args =>
          refine ⟨bx, ?_, ?_⟩
          · simp only [memS]
            repeat' split at hj
            all_goals first | (simp at hj; done) | skip
            rename_i q1 _ _ q2 _ _ _ q3 q4
            simp at hj; obtain ⟨rfl, _⟩ := hj
            simp only [q1, q2, q3, q4, if_true]
          · have : bx2 = ins bx d ⟨ty, cs⟩ := by
              repeat' split at hj
              all_goals first | (simp at hj; done) | (simp at hj; exact hj.2.symm)
            subst this
            exact hnew bx h1
        case load g sz k' o' =>
          obtain ⟨b', hb'⟩ := hwf
          have hk : k' ≠ d := by rintro rfl; rw [h1] at hb'; simp at hb'
          rw [look_ins_other _ _ _ _ hk] at hj
          refine ⟨bx, ?_, ?_⟩
          · simp only [memS]
            repeat' split at hj
            all_goals first | (simp at hj; done) | skip
            rename_i q1 _ _ q2
            simp at hj; obtain ⟨rfl, _⟩ := hj
            simp only [q1, q2]
          · have : bx2 = ins bx d ⟨ty, cs⟩ := by
              repeat' split at hj
              all_goals first | (simp at hj; done) | (simp at hj; exact hj.2.symm)
            subst this
            exact hnew bx h1
        case store k' o' cs' =>
          obtain ⟨⟨b', hb'⟩, _⟩ := hwf
          have hk : k' ≠ d := by rintro rfl; rw [h1] at hb'; simp at hb'
          rw [look_ins_other _ _ _ _ hk, hb'] at hj
          dsimp only at hj
          split at hj
          · rename_i hle'
            simp at hj
            obtain ⟨rfl, rfl⟩ := hj
            refine ⟨upd bx k' ⟨b'.ty, splice b'.cells o' cs'⟩, by simp only [memS, hb', hle', if_true], ?_⟩
            rw [hnew _ (by rw [look_upd_other _ _ _ _ (fun e => hk e.symm)]; exact h1), ins_upd_comm _ _ _ _ _ (fun e => hk e.symm)]
          · simp at hj
        case new ty' cs' =>
          cases hdj : dj with
          | none => rw [hdj] at hj; simp at hj
          | some e =>
            rw [hdj] at hj
            dsimp only at hj
            have hde : d ≠ e := by rintro rfl; exact hd d hdi hdj
            rw [look_ins_other _ _ _ _ (fun q => hde q.symm)] at hj
            cases h2 : look bx e with
            | some _ => rw [h2] at hj; simp at hj
            | none =>
              rw [h2] at hj
              simp at hj
              obtain ⟨rfl, rfl⟩ := hj
              refine ⟨ins bx e ⟨ty', cs'⟩, by simp only [memS, h2], ?_⟩
              rw [hnew _ (by rw [look_ins_other _ _ _ _ hde]; exact h1), ins_comm _ _ _ _ _ hde]
end
end Go.Am
