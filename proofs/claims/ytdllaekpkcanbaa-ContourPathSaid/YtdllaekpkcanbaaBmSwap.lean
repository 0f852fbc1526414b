/- The abstract machine, second form: two steps of a region that have no order between them change places. -/
import Derived.Test.YtdllaekpkcanbaaBmDraw
set_option linter.unusedVariables false
set_option linter.unusedSimpArgs false
namespace Go.Bm
open Go.RowKit

section
variable {P : Program} {C : Cfg} {w : World} {R : Type} {Z : Base}

theorem evalL_congr {ev ev' : Operand -> TV} : ∀ (l : List Operand), (∀ x ∈ l, ev x = ev' x) -> evalL ev l = evalL ev' l
 | [], _ => rfl
 | x :: l, h => by simp only [evalL]; rw [h x (by simp), evalL_congr l fun y hy => h y (by simp [hy])]

theorem evalP_congr {ev ev' : Operand -> TV} : ∀ (l : List (Nat × Operand)), (∀ p ∈ l, ev p.2 = ev' p.2) -> evalP ev l = evalP ev' l
 | [], _ => rfl
 | x :: l, h => by simp only [evalP]; rw [h x (by simp), evalP_congr l fun y hy => h y (by simp [hy])]

theorem optInt_congr {ev ev' : Operand -> TV} (o : Option Operand) (h : ∀ x, o = some x -> ev x = ev' x) : optInt ev o = optInt ev' o := by
 cases o with
 | none => rfl
 | some x => simp only [optInt]; rw [h x rfl]

theorem opK_congr {ev ev' : Operand -> TV} {dst : Option Tmp} {o : Op} (h : ∀ x ∈ o.operands, ev x = ev' x) (K : Prim -> Option R) : opK P C ev dst o K = opK P C ev' dst o K := by
 cases o <;> simp only [Op.operands] at h <;> simp only [opK]
 case move x => rw [h x (by simp)]
 case assign x => rw [h x (by simp)]
 case pick c a b => rw [h c (by simp), h a (by simp), h b (by simp)]
 case box t x => rw [h x (by simp)]
 case build t parts => rw [evalP_congr parts.toList fun p hp => h p.2 (by simp; exact ⟨p.1, by simpa using hp⟩)]
 case buildSlice t n parts => rw [evalP_congr parts.toList fun p hp => h p.2 (by simp; exact ⟨p.1, by simpa using hp⟩)]
 case makeSlice t a b => rw [h a (by simp), h b (by simp)]
 case makeFunc fn a b =>
  rw [evalL_congr a.toList fun x hx => h x (by simp at hx ⊢; exact .inl hx), evalL_congr b.toList fun x hx => h x (by simp at hx ⊢; exact .inr hx)]
 case load t a => rw [h a (by simp)]
 case store t a x => rw [h a (by simp), h x (by simp)]
 case nilCheck x => rw [h x (by simp)]
 case binOp op t x y _ => rw [h x (by simp), h y (by simp)]
 case unOp op t x => rw [h x (by simp)]
 case convert s d x => rw [h x (by simp)]
 case fieldAddr t x i => rw [h x (by simp)]
 case field t x i => rw [h x (by simp)]
 case indexAddr t x ix => rw [h x (by simp), h ix (by simp)]
 case index t x ix => rw [h x (by simp), h ix (by simp)]
 case slice t x lo hi mx =>
  rw [h x (by simp), optInt_congr lo fun y hy => h y (by simp [hy]), optInt_congr hi fun y hy => h y (by simp [hy])]
 case extract t i => rw [h t (by simp)]
 case call c =>
  have hc : ∀ t, c.callee = .value (.tmp t) -> ev (.tmp t) = ev' (.tmp t) := fun t ht => h _ (by simp only [Call.operands, ht]; exact Array.mem_append.2 (.inl (by simp)))
  have ha : evalL ev c.args.toList = evalL ev' c.args.toList := evalL_congr _ fun x hx => h x (by simp only [Call.operands]; exact Array.mem_append.2 (.inr (by simpa using hx)))
  rw [ha]
  split
  ·rfl
  ·rfl
  ·rename_i t ht
   rw [hc t ht]
  ·rfl

theorem evOf_setL {tm : List TV} {d : Nat} {v : TV} {x : Operand} (h : x ≠ .tmp d) : evOf (setL tm d v) x = evOf tm x := by
 cases x with
 | tmp t =>
  have hne : d ≠ t := fun e => h (by rw [e])
  simp only [evOf, Qg3, List.getD, setL_eq, List.getElem?_set, if_neg hne]
 | _ => rfl

def putT (tm : List TV) (d : Option Tmp) (v : TV) : List TV :=
 match d with
 | none => tm
 | some t => setL tm t v

theorem putS_mk (tm : List TV) (bx : List (Nat × Box)) (rows : List (Nat × Row)) (d : Option Tmp) (v : TV) : putS ⟨tm, bx, rows⟩ d v = ⟨putT tm d v, bx, rows⟩ := by cases d <;> rfl

theorem putT_comm {tm : List TV} {d e : Option Tmp} (v u : TV) (h : ∀ t, d = some t -> e ≠ some t) : putT (putT tm d v) e u = putT (putT tm e u) d v := by
 cases d with
 | none => rfl
 | some t =>
  cases e with
  | none => rfl
  | some q =>
   have hne : t ≠ q := fun x => h t rfl (by rw [x])
   simp only [putT, setL_eq]
   exact List.set_comm _ _ hne

def coreS (P : Program) (C : Cfg) (ops : List Oper) (o : Oper) (tm : List TV) (bx : List (Nat × Box)) (rows : List (Nat × Row)) : Option (Option Prim × TV × List (Nat × Box)) :=
 match Qls ops o tm with
 | some true => (opK P C (evOf tm) o.dst o.op some).bind fun p => (memS (C := C) o.dst (p.dr false) bx rows).bind fun q => some (some (p.dr false), q.1, q.2)
 | some false => some (none, .tup [], bx)
 | none => none

theorem memS_app {d : Option Tmp} {p : Prim} {bx : List (Nat × Box)} {rows : List (Nat × Row)} (h : Prim.isApp (some p) = true) : memS (C := C) d p bx rows = none := by
 cases p <;> simp [Prim.isApp] at h
 rfl
theorem memS_mk {d : Option Tmp} {p : Prim} {bx : List (Nat × Box)} {rows : List (Nat × Row)} (h : Prim.isMk (some p) = true) : memS (C := C) d p bx rows = none := by
 cases p <;> simp [Prim.isMk] at h <;> rfl
theorem core_nomk {ops : List Oper} {o : Oper} {tm : List TV} {bx bx' : List (Nat × Box)} {rows : List (Nat × Row)} {p : Option Prim} {v : TV} (h : coreS P C ops o tm bx rows = some (p, v, bx')) : Prim.isMk p = false := by
 unfold coreS at h
 split at h
 ·cases hp : opK P C (evOf tm) o.dst o.op some with
  | none => rw [hp] at h; simp at h
  | some q =>
   rw [hp] at h
   simp only [Option.bind_some] at h
   cases hq : Prim.isMk (some (q.dr false)) with
   | true => rw [memS_mk hq] at h; simp at h
   | false =>
    cases hm : memS (C := C) o.dst (q.dr false) bx rows with
    | none => rw [hm] at h; simp at h
    | some z => rw [hm] at h; simp at h; rw [<- h.1]; exact hq
 ·simp at h; rw [<- h.1]; rfl
 ·simp at h
theorem core_noapp {ops : List Oper} {o : Oper} {tm : List TV} {bx bx' : List (Nat × Box)} {rows : List (Nat × Row)} {p : Option Prim} {v : TV} (h : coreS P C ops o tm bx rows = some (p, v, bx')) : Prim.isApp p = false := by
 unfold coreS at h
 split at h
 ·cases hp : opK P C (evOf tm) o.dst o.op some with
  | none => rw [hp] at h; simp at h
  | some q =>
   rw [hp] at h
   simp only [Option.bind_some] at h
   cases hq : Prim.isApp (some (q.dr false)) with
   | true => rw [memS_app hq] at h; simp at h
   | false =>
    cases hm : memS (C := C) o.dst (q.dr false) bx rows with
    | none => rw [hm] at h; simp at h
    | some z => rw [hm] at h; simp at h; rw [<- h.1]; exact hq
 ·simp at h; rw [<- h.1]; rfl
 ·simp at h
theorem Qkd {ops : List Oper} {o : Oper} {tm : List TV} {bx bx' : List (Nat × Box)} {rows : List (Nat × Row)} {p : Option Prim} {v : TV} (h : coreS P C ops o tm bx rows = some (p, v, bx')) :
  Qog (P := P) (C := C) ops o ⟨tm, bx, rows⟩ = some (p, ⟨putT tm o.dst v, bx', rows⟩) := by
 have hna := core_noapp h
 have hnm := core_nomk h
 unfold coreS at h
 unfold Qog
 dsimp only
 cases hw : Qls ops o tm with
 | none => rw [hw] at h; simp at h
 | some b =>
  cases b
  ·rw [hw] at h
   simp at h
   obtain ⟨rfl, rfl, rfl⟩ := h
   simp only [putS_mk]
  ·rw [hw] at h
   dsimp only at h ⊢
   cases hp : opK P C (evOf tm) o.dst o.op some with
   | none => rw [hp] at h; simp at h
   | some q =>
    rw [hp] at h
    simp only [Option.bind_some] at h ⊢
    cases hm : memS (C := C) o.dst (q.dr false) bx rows with
    | none => rw [hm] at h; simp at h
    | some z =>
     rw [hm] at h; simp at h
     obtain ⟨rfl, rfl, rfl⟩ := h
     unfold memD
     rw [hna, hnm]
     simp only [cond_false, hm, Option.map_some, Option.bind_some, putS_mk]
theorem stepS_core {ops : List Oper} {o : Oper} {tm : List TV} {bx : List (Nat × Box)} {rows : List (Nat × Row)} {p : Option Prim} {s' : St} (h : Qog (P := P) (C := C) ops o ⟨tm, bx, rows⟩ = some (p, s')) (hn : Prim.isApp p = false) (hnm : Prim.isMk p = false) :
  ∃ v bx', coreS P C ops o tm bx rows = some (p, v, bx') /\ s' = ⟨putT tm o.dst v, bx', rows⟩ := by
 unfold Qog at h
 unfold coreS
 dsimp only at h
 cases hw : Qls ops o tm with
 | none => rw [hw] at h; simp at h
 | some b =>
  cases b
  ·rw [hw] at h
   simp at h
   obtain ⟨rfl, rfl⟩ := h
   exact ⟨_, _, rfl, by rw [putS_mk]⟩
  ·rw [hw] at h
   dsimp only at h ⊢
   cases hp : opK P C (evOf tm) o.dst o.op some with
   | none => rw [hp] at h; simp at h
   | some q =>
    rw [hp] at h
    simp only [Option.bind_some] at h ⊢
    cases hm : memD (C := C) o.dst (q.dr false) ⟨tm, bx, rows⟩ with
    | none => rw [hm] at h; simp at h
    | some z =>
     rw [hm] at h
     simp at h
     obtain ⟨rfl, rfl⟩ := h
     unfold memD at hm
     rw [hn, hnm] at hm
     simp only [cond_false, Option.map_eq_some_iff] at hm
     obtain ⟨y, hy, rfl⟩ := hm
     rw [hy]
     exact ⟨_, _, rfl, by rw [putS_mk]⟩
theorem stepS_app {ops : List Oper} {o : Oper} {tm : List TV} {bx : List (Nat × Box)} {rows : List (Nat × Row)} {p : Option Prim} {s' : St} (h : Qog (P := P) (C := C) ops o ⟨tm, bx, rows⟩ = some (p, s')) (hn : Prim.isApp p = true) :
  Qls ops o tm = some true /\ ∃ q id v rows', opK P C (evOf tm) o.dst o.op some = some q /\ p = some (q.dr false) /\ appId o.dst (q.dr false) = some id /\ appG o.dst rows (q.dr false) = some (v, rows') /\ s' = ⟨putT (tm.map (TV.kill id)) o.dst v, bx.map fun p => (p.1, p.2.kill id), rows'⟩ := by
 unfold Qog at h
 dsimp only at h
 cases hw : Qls ops o tm with
 | none => rw [hw] at h; simp at h
 | some b =>
  cases b
  ·rw [hw] at h
   simp at h
   obtain ⟨rfl, rfl⟩ := h
   simp [Prim.isApp] at hn
  ·rw [hw] at h
   refine ⟨rfl, ?_⟩
   dsimp only at h
   cases hp : opK P C (evOf tm) o.dst o.op some with
   | none => rw [hp] at h; simp at h
   | some q =>
    rw [hp] at h
    simp only [Option.bind_some] at h
    cases hm : memD (C := C) o.dst (q.dr false) ⟨tm, bx, rows⟩ with
    | none => rw [hm] at h; simp at h
    | some z =>
     rw [hm] at h
     simp at h
     obtain ⟨rfl, rfl⟩ := h
     unfold memD at hm
     rw [hn] at hm
     simp only [cond_true] at hm
     split at hm
     ·rename_i id hid
      simp only [Option.map_eq_some_iff] at hm
      obtain ⟨⟨y1, y2⟩, hy, rfl⟩ := hm
      exact ⟨q, id, y1, y2, rfl, rfl, hid, hy, by unfold killS; rw [putS_mk]⟩
     ·simp at hm
theorem stepS_of_app {ops : List Oper} {o : Oper} {tm : List TV} {bx : List (Nat × Box)} {rows rows' : List (Nat × Row)} {q : Prim} {id : Nat} {v : TV} (h1 : Qls ops o tm = some true) (h2 : opK P C (evOf tm) o.dst o.op some = some q)
  (h3 : appId o.dst (q.dr false) = some id) (h4 : appG o.dst rows (q.dr false) = some (v, rows')) (h5 : Prim.isApp (some (q.dr false)) = true) :
  Qog (P := P) (C := C) ops o ⟨tm, bx, rows⟩ = some (some (q.dr false), ⟨putT (tm.map (TV.kill id)) o.dst v, bx.map fun p => (p.1, p.2.kill id), rows'⟩) := by
 unfold Qog
 dsimp only
 rw [h1, h2]
 simp only [Option.bind_some]
 unfold memD
 rw [h5]
 simp only [cond_true, h3, h4, Option.map_some, Option.bind_some, killS, putS_mk]

theorem stepS_mk {ops : List Oper} {o : Oper} {tm : List TV} {bx : List (Nat × Box)} {rows : List (Nat × Row)} {p : Option Prim} {s' : St} (h : Qog (P := P) (C := C) ops o ⟨tm, bx, rows⟩ = some (p, s')) (hn : Prim.isMk p = true) :
  Qls ops o tm = some true /\ ∃ q v rows', opK P C (evOf tm) o.dst o.op some = some q /\ p = some (q.dr false) /\ mkD (C := C) o.dst (q.dr false) rows = some (v, rows') /\ s' = ⟨putT tm o.dst v, bx, rows'⟩ := by
 unfold Qog at h
 dsimp only at h
 cases hw : Qls ops o tm with
 | none => rw [hw] at h; simp at h
 | some b =>
  cases b
  ·rw [hw] at h
   simp at h
   obtain ⟨rfl, rfl⟩ := h
   simp [Prim.isMk] at hn
  ·rw [hw] at h
   refine ⟨rfl, ?_⟩
   dsimp only at h
   cases hp : opK P C (evOf tm) o.dst o.op some with
   | none => rw [hp] at h; simp at h
   | some q =>
    rw [hp] at h
    simp only [Option.bind_some] at h
    cases hm : memD (C := C) o.dst (q.dr false) ⟨tm, bx, rows⟩ with
    | none => rw [hm] at h; simp at h
    | some z =>
     rw [hm] at h
     simp at h
     obtain ⟨rfl, rfl⟩ := h
     have hna : Prim.isApp (some (q.dr false)) = false := by
      generalize q.dr false = q' at hn ⊢
      cases q' <;> simp [Prim.isMk] at hn <;> rfl
     unfold memD at hm
     rw [hna, hn] at hm
     simp only [cond_false, cond_true, Option.map_eq_some_iff] at hm
     obtain ⟨⟨y1, y2⟩, hy, rfl⟩ := hm
     exact ⟨q, y1, y2, rfl, rfl, hy, by rw [putS_mk]⟩
theorem stepS_of_mk {ops : List Oper} {o : Oper} {tm : List TV} {bx : List (Nat × Box)} {rows rows' : List (Nat × Row)} {q : Prim} {v : TV} (h1 : Qls ops o tm = some true) (h2 : opK P C (evOf tm) o.dst o.op some = some q)
  (h4 : mkD (C := C) o.dst (q.dr false) rows = some (v, rows')) (h5 : Prim.isMk (some (q.dr false)) = true) :
  Qog (P := P) (C := C) ops o ⟨tm, bx, rows⟩ = some (some (q.dr false), ⟨putT tm o.dst v, bx, rows'⟩) := by
 have hna : Prim.isApp (some (q.dr false)) = false := by
  generalize q.dr false = q' at h5 ⊢
  cases q' <;> simp [Prim.isMk] at h5 <;> rfl
 unfold Qog
 dsimp only
 rw [h1, h2]
 simp only [Option.bind_some]
 unfold memD
 rw [hna, h5]
 simp only [cond_true, cond_false, h4, Option.map_some, Option.bind_some, putS_mk]

theorem kill_live {id : Nat} {a : AC} (h : a.live = true) : a.kill id = a := by cases a <;> simp [AC.live] at h <;> rfl
theorem live_kill {id : Nat} {a : AC} (h : (a.kill id).live = true) : a.kill id = a := by
 cases a <;> simp only [AC.kill] at h ⊢ <;> try rfl
 all_goals
  rename_i j b c
  cases hb : Nat.beq j id <;> rw [hb] at h
  ·rfl
  ·simp [AC.live] at h
theorem killL_live {id : Nat} : ∀ {l : List AC}, allB AC.live l = true -> l.map (AC.kill id) = l
 | [], _ => rfl
 | a :: l, h => by
  rw [Qag] at h
  simp only [List.map_cons]
  rw [kill_live (h a (by simp)), killL_live (Qag.2 fun x hx => h x (by simp [hx]))]
theorem live_killL {id : Nat} : ∀ {l : List AC}, allB AC.live (l.map (AC.kill id)) = true -> l.map (AC.kill id) = l
 | [], _ => rfl
 | a :: l, h => by
  rw [Qag] at h
  simp only [List.map_cons] at h ⊢
  rw [live_kill (h _ (by simp)), live_killL (Qag.2 fun x hx => h x (by simp [hx]))]
theorem nth_killT (id : Nat) : ∀ (tm : List TV) (t : Nat), nth .dead (tm.map (TV.kill id)) t = (nth .dead tm t).kill id
 | [], _ => rfl
 | _ :: _, 0 => rfl
 | _ :: tm, t + 1 => nth_killT id tm t
theorem ev_kill1 {id : Nat} {tm : List TV} {x : Operand} {g : Bool} {cs : List AC} (h : evOf tm x = .v g cs) (hl : allB AC.live cs = true) : evOf (tm.map (TV.kill id)) x = .v g cs := by
 cases x <;> try exact h
 simp only [evOf] at h ⊢
 rw [nth_killT, h]
 simp only [TV.kill]
 rw [killL_live hl]
theorem ev_kill2 {id : Nat} {tm : List TV} {x : Operand} {g : Bool} {cs : List AC} (h : evOf (tm.map (TV.kill id)) x = .v g cs) (hl : allB AC.live cs = true) : evOf tm x = .v g cs := by
 cases x <;> try exact h
 simp only [evOf] at h ⊢
 rw [nth_killT] at h
 cases ht : nth TV.dead tm (by assumption) with
 | dead => rw [ht] at h; simp [TV.kill] at h
 | tup ps => rw [ht] at h; simp [TV.kill] at h
 | v g' cs' =>
  rw [ht] at h
  simp only [TV.kill, TV.v.injEq] at h
  obtain ⟨rfl, rfl⟩ := h
  rw [live_killL hl]
theorem isPtr_eq {q : Prim} (h : Prim.isPtr (some (q.dr false)) = true) : ∃ k o, q = .val (.v false [.ptr k o]) := by
 cases q <;> simp only [Prim.dr, Prim.isPtr] at h <;> try (simp at h; done)
 case callM f args => cases hb : allB TV.plainB args <;> simp [hb] at h
 rename_i v
 split at h
 ·rename_i h'; simp at h'; exact ⟨_, _, by rw [h']⟩
 ·simp at h
theorem isLive_eq {q : Prim} (h : Prim.isLive (some (q.dr false)) = true) : ∃ g cs, q = .val (.v g cs) /\ allB AC.live cs = true := by
 cases q <;> simp only [Prim.dr, Prim.isLive] at h <;> try (simp at h; done)
 case callM f args => cases hb : allB TV.plainB args <;> simp [hb] at h
 rename_i v
 cases v <;> simp at h
 exact ⟨_, _, rfl, h⟩
theorem still_eq {id : Nat} {tm : List TV} {dst : Option Tmp} {o : Op} {q : Prim} (hs : Prim.still o (some (q.dr false)) = true) :
  opK P C (evOf (tm.map (TV.kill id))) dst o some = some q ↔ opK P C (evOf tm) dst o some = some q := by
 cases o <;> simp [Prim.still] at hs
 case move x =>
  obtain ⟨g, cs, rfl, hs⟩ := isLive_eq hs
  simp only [opK, Option.some.injEq, Prim.val.injEq]
  exact ⟨fun h => ev_kill2 h hs, fun h => ev_kill1 h hs⟩
 case nilCheck x =>
  obtain ⟨k, o, rfl⟩ := isPtr_eq hs
  have hl : allB AC.live [AC.ptr k o] = true := rfl
  have key : ∀ ev : Operand -> TV, opK P C ev dst (.nilCheck x) some = some (.val (.v false [.ptr k o])) ↔ ev x = .v false [.ptr k o] := by
   intro ev
   simp only [opK]
   split
   ·rename_i k' o' h; rw [h]; simp [TV.c]
   ·rename_i h; rw [h]; simp [TV.c]
   ·rename_i h; rw [h]; simp [TV.c]
   ·rename_i h1 h2 h3
    constructor
    ·intro h; simp at h
    ·intro h; exact (h1 _ _ h).elim
  rw [key, key]
  exact ⟨fun h => ev_kill2 h hl, fun h => ev_kill1 h hl⟩
 case fieldAddr t x i =>
  obtain ⟨k, o, rfl⟩ := isPtr_eq hs
  have key : ∀ ev : Operand -> TV, opK P C ev dst (.fieldAddr t x i) some = some (.val (.v false [.ptr k o])) -> ∃ k' o', ev x = .v false [.ptr k' o'] := by
   intro ev h
   simp only [opK] at h
   repeat' split at h
   all_goals first | (simp at h; done) | (simp [TV.c] at h; done) | exact ⟨_, _, by assumption⟩
  constructor
  ·intro h
   obtain ⟨k', o', e⟩ := key _ h
   have e2 := ev_kill2 e rfl
   rw [<- h]
   refine opK_congr (fun y hy => ?_) some
   simp only [Op.operands] at hy
   simp at hy; subst hy
   rw [e, e2]
  ·intro h
   obtain ⟨k', o', e⟩ := key _ h
   have e2 := ev_kill1 (id := id) e rfl
   rw [<- h]
   refine opK_congr (fun y hy => ?_) some
   simp only [Op.operands] at hy
   simp at hy; subst hy
   rw [e, e2]
theorem still_val {o : Op} {q : Prim} (hs : Prim.still o (some (q.dr false)) = true) : ∃ g cs, q = .val (.v g cs) /\ allB AC.live cs = true := by
 cases o <;> simp [Prim.still] at hs
 case move x => exact isLive_eq hs
 all_goals
  obtain ⟨k, o, rfl⟩ := isPtr_eq hs
  exact ⟨_, _, rfl, rfl⟩
theorem putT_kill {id : Nat} {tm : List TV} {d : Option Tmp} {g : Bool} {cs : List AC} (h : allB AC.live cs = true) : (putT tm d (.v g cs)).map (TV.kill id) = putT (tm.map (TV.kill id)) d (.v g cs) := by
 cases d with
 | none => rfl
 | some t =>
  simp only [putT, setL_eq, List.map_set, TV.kill]
  rw [killL_live h]

theorem want_congr {ops : Array Oper} {o : Oper} {tm : List TV} {d : Option Tmp} {v : TV} (h : ∀ t, d = some t -> t ∉ o.looksAt ops) : Qls ops.toList o (putT tm d v) = Qls ops.toList o tm := by
 cases d with
 | none => rfl
 | some t =>
  have hh := h t rfl
  unfold Qls
  cases hg : o.guard with
  | none => rfl
  | some jw =>
   obtain ⟨j, want⟩ := jw
   dsimp only
   cases hj : ops.toList[j]? with
   | none => rfl
   | some oj =>
    dsimp only
    cases ht : oj.dst with
    | none => rfl
    | some q =>
     dsimp only
     have hj' : ops[j]? = some oj := by simpa using hj
     have hne : t ≠ q := by
      rintro rfl
      exact hh (by simp [Oper.looksAt, hg, hj', ht])
     have : nth .dead (putT tm (some t) v) q = nth .dead tm q := by
      simp only [putT, Qg3, List.getD, setL_eq, List.getElem?_set, if_neg hne]
     rw [this]

theorem core_congr {ops : Array Oper} {o : Oper} {tm : List TV} {bx : List (Nat × Box)} {rows : List (Nat × Row)} {d : Option Tmp} {v : TV} (h : ∀ t, d = some t -> t ∉ o.looksAt ops) :
  coreS P C ops.toList o (putT tm d v) bx rows = coreS P C ops.toList o tm bx rows := by
 unfold coreS
 rw [want_congr h]
 cases d with
 | none => rfl
 | some t =>
  have hh := h t rfl
  rw [show opK P C (evOf (putT tm (some t) v)) o.dst o.op some = opK P C (evOf tm) o.dst o.op some from opK_congr (fun x hx => evOf_setL (by
   rintro rfl
   exact hh (List.mem_append_left _ (List.mem_filterMap.2 ⟨.tmp t, by simpa using hx, rfl⟩)))) some]

theorem Qor {a b : Nat} (h : a ≠ b) : Nat.beq a b = false := beq_ne h

theorem upd_comm {α : Type} : ∀ (l : List (Nat × α)) (k j : Nat) (x y : α), k ≠ j -> upd (upd l k x) j y = upd (upd l j y) k x
 | [], _, _, _, _, _ => rfl
 | (i, b) :: l, k, j, x, y, h => by
  by_cases h1 : i = k
  ·subst h1
   simp only [upd, Nat.beq_refl, cond_true, Qor h, cond_false]
  ·by_cases h2 : i = j
   ·subst h2
    simp only [upd, Nat.beq_refl, cond_true, Qor h1, cond_false]
   ·simp only [upd, Qor h1, Qor h2, cond_false]
    rw [upd_comm l k j x y h]

theorem Qle {a b : Nat} (h : a < b) : Nat.blt a b = true := by simpa using h
theorem Qh9 {a b : Nat} (h : ¬ a < b) : Nat.blt a b = false := by
 cases hb : Nat.blt a b
 ·rfl
 ·simp at hb; omega

theorem ins_comm {α : Type} : ∀ (l : List (Nat × α)) (k j : Nat) (x y : α), k ≠ j -> ins (ins l k x) j y = ins (ins l j y) k x
 | [], k, j, x, y, h => by
  by_cases h1 : j < k
  ·simp only [ins, Qle h1, cond_true, Qh9 (show ¬ k < j by omega), cond_false]
  ·simp only [ins, Qh9 h1, cond_false, Qle (show k < j by omega), cond_true]
 | (i, b) :: l, k, j, x, y, h => by
  by_cases h1 : k < i <;> by_cases h2 : j < i
  ·by_cases h3 : j < k
   ·simp only [ins, Qle h1, Qle h2, Qle h3, Qh9 (show ¬ k < j by omega), cond_true, cond_false]
   ·simp only [ins, Qle h1, Qle h2, Qh9 h3, Qle (show k < j by omega), cond_true, cond_false]
  ·simp only [ins, Qle h1, Qh9 h2, Qh9 (show ¬ j < k by omega), cond_true, cond_false]
  ·simp only [ins, Qh9 h1, Qle h2, Qh9 (show ¬ k < j by omega), cond_true, cond_false]
  ·simp only [ins, Qh9 h1, Qh9 h2, cond_false]
   rw [ins_comm l k j x y h]

theorem ins_upd_comm {α : Type} : ∀ (l : List (Nat × α)) (k j : Nat) (x y : α), k ≠ j -> upd (ins l k x) j y = ins (upd l j y) k x
 | [], k, j, x, y, h => by simp only [ins, upd, Qor h, cond_false]
 | (i, b) :: l, k, j, x, y, h => by
  by_cases h1 : k < i <;> by_cases h2 : i = j
  ·subst h2; simp only [ins, upd, Qle h1, Qor h, Nat.beq_refl, cond_true, cond_false]
  ·simp only [ins, upd, Qle h1, Qor h, Qor h2, cond_true, cond_false]
  ·subst h2; simp only [ins, upd, Qh9 h1, Nat.beq_refl, cond_true, cond_false]
  ·simp only [ins, upd, Qh9 h1, Qor h2, cond_false]
   rw [ins_upd_comm l k j x y h]

theorem memS_call {d : Option Tmp} {f : FuncId} {args : List TV} {bx bx' : List (Nat × Box)} {rows : List (Nat × Row)} {v : TV} (h : memS (C := C) d (.call f args) bx rows = some (v, bx')) :
  bx' = bx /\ ∀ (d2 : Option Tmp) (bx2 : List (Nat × Box)), memS (C := C) d2 (.call f args) bx2 rows = some (v, bx2) := by
 simp only [memS] at h ⊢
 cases h1 : C.spec f with
 | none => rw [h1] at h; simp at h
 | some g =>
  rw [h1] at h
  dsimp only at h ⊢
  cases h2 : resArgs rows args with
  | none => rw [h2] at h; simp at h
  | some l =>
   rw [h2] at h
   dsimp only at h ⊢
   cases h3 : g (TV × Mem) l ⟨[], []⟩ (fun v m => some (v, m)) with
   | none => rw [h3] at h; simp at h
   | some q =>
    rw [h3] at h
    obtain ⟨u, ⟨mb, mr⟩⟩ := q
    cases mb with
    | cons _ _ => simp at h
    | nil =>
     cases mr with
     | cons _ _ => simp at h
     | nil =>
      dsimp only at h ⊢
      split at h
      ·rename_i hc
       simp at h
       obtain ⟨rfl, rfl⟩ := h
       refine ⟨rfl, fun _ _ => ?_⟩
       rw [if_pos hc]
      ·simp at h

theorem memS_rload {d : Option Tmp} {g : Bool} {sz id idx sub : Nat} {bx bx1 : List (Nat × Box)} {rows : List (Nat × Row)} {v : TV} (h : memS (C := C) d (.rload g sz id idx sub) bx rows = some (v, bx1)) :
  bx1 = bx /\ ∀ (d' : Option Tmp) (b' : List (Nat × Box)), memS (C := C) d' (.rload g sz id idx sub) b' rows = some (v, b') := by
 simp only [memS] at h ⊢
 repeat' split at h
 all_goals first | (simp at h; done) | skip
 simp at h
 obtain ⟨rfl, rfl⟩ := h
 exact ⟨rfl, fun _ _ => rfl⟩

theorem mem_addN {n k : Nat} : ∀ {l : List Nat}, k ∈ addN n l ↔ k = n \/ k ∈ l
 | [] => by simp [addN]
 | m :: l => by
  simp only [addN]
  cases hb : Nat.beq m n
  ·simp only [cond_false, List.mem_cons, mem_addN (l := l)]
   constructor
   ·rintro (h | h | h) <;> simp [h]
   ·rintro (h | h | h) <;> simp [h]
  ·have := Nat.eq_of_beq_eq_true hb
   subst this
   simp only [cond_true, List.mem_cons]
   constructor
   ·rintro (h | h) <;> simp [h]
   ·rintro (h | h | h) <;> simp [h]
theorem mem_addAll {k : Nat} : ∀ {ns l : List Nat}, k ∈ Qcs ns l ↔ k ∈ ns \/ k ∈ l
 | [], l => by simp [Qcs]
 | n :: ns, l => by
  simp only [Qcs, mem_addAll (ns := ns), mem_addN, List.mem_cons]
  constructor
  ·rintro (h | h | h) <;> simp [h]
  ·rintro ((h | h) | h) <;> simp [h]
theorem mem_cat {α β : Type} {g : α -> List β} {x : β} : ∀ {l : List α}, x ∈ cat g l ↔ ∃ a ∈ l, x ∈ g a
 | [] => by simp [cat]
 | a :: l => by simp [cat, mem_cat (l := l)]
theorem mem_keysL {k : Nat} : ∀ {l : List AC}, k ∈ AC.keys.keysL l -> ∃ o, AC.ptr k o ∈ l
 | [], h => by simp [AC.keys.keysL] at h
 | a :: l, h => by
  cases a
  case ptr j o =>
   simp only [AC.keys.keysL, List.mem_cons] at h
   rcases h with rfl | h
   ·exact ⟨o, by simp⟩
   ·obtain ⟨o', h'⟩ := mem_keysL h; exact ⟨o', by simp [h']⟩
  all_goals
   simp only [AC.keys.keysL] at h
   obtain ⟨o', h'⟩ := mem_keysL h
   exact ⟨o', by simp [h']⟩
theorem key_there {bx : List (Nat × Box)} {rows : List (Nat × Row)} {args : List TV} (h : ∀ v ∈ args, TV.wf bx rows v) {k : Nat} (hk : k ∈ Qcs (cat AC.keys (cat TV.cellsOf args)) []) : ∃ b, look bx k = some b := by
 simp only [mem_addAll, List.not_mem_nil, or_false] at hk
 obtain ⟨a, ha, hka⟩ := mem_cat.1 hk
 obtain ⟨v, hv, hav⟩ := mem_cat.1 ha
 have hw := h v hv
 have haw : AC.wf bx rows a := by
  cases v with
  | dead => simp [TV.cellsOf] at hav
  | v g cs => exact hw a hav
  | tup ps =>
   simp only [TV.cellsOf] at hav
   obtain ⟨p, hp, hap⟩ := mem_cat.1 hav
   exact hw p hp a hap
 cases a
 case ptr j o => simp [AC.keys] at hka; subst hka; exact haw
 case clo f fs cs =>
  simp only [AC.keys, List.mem_append] at hka
  rcases hka with hka | hka
  ·obtain ⟨o, ho⟩ := mem_keysL hka
   exact haw.1 _ ho
  ·obtain ⟨o, ho⟩ := mem_keysL hka
   exact haw.2 _ ho
 all_goals simp [AC.keys] at hka

theorem subB_congr {bx bx' : List (Nat × Box)} {rk ri : Nat -> Nat} : ∀ (keys : List Nat) (b : Nat), (∀ k ∈ keys, look bx' k = look bx k) -> subB bx' rk ri b keys = subB bx rk ri b keys
 | [], _, _ => rfl
 | k :: keys, b, h => by
  simp only [subB]
  rw [h k (by simp), subB_congr keys (b + 1) fun j hj => h j (by simp [hj])]
theorem allB_congr {α : Type} {p q : α -> Bool} : ∀ {l : List α}, (∀ x ∈ l, p x = q x) -> allB p l = allB q l
 | [], _ => rfl
 | a :: l, h => by simp only [allB]; rw [h a (by simp), allB_congr (l := l) fun x hx => h x (by simp [hx])]

theorem Qfp {keys : List Nat} : ∀ (m : List (Nat × Box)) (l : List (Nat × Box)) (n : Nat), (∀ p ∈ m, n ≠ nth 0 keys (p.1 - base)) -> look (Qh8 keys m l) n = look l n
 | [], _, _, _ => rfl
 | (j, c) :: m, l, n, h => by
  simp only [Qh8]
  rw [Qfp m _ n fun p hp => h p (by simp [hp])]
  exact Qa2 _ _ _ _ (h (j, c) (by simp))
theorem updAll_upd {keys : List Nat} : ∀ (m : List (Nat × Box)) (l : List (Nat × Box)) (n : Nat) (x : Box), (∀ p ∈ m, n ≠ nth 0 keys (p.1 - base)) -> Qh8 keys m (upd l n x) = upd (Qh8 keys m l) n x
 | [], _, _, _, _ => rfl
 | (j, c) :: m, l, n, x, h => by
  simp only [Qh8]
  rw [upd_comm _ _ _ _ _ (h (j, c) (by simp)), updAll_upd m _ n x fun p hp => h p (by simp [hp])]
theorem updAll_ins {keys : List Nat} : ∀ (m : List (Nat × Box)) (l : List (Nat × Box)) (n : Nat) (x : Box), (∀ p ∈ m, n ≠ nth 0 keys (p.1 - base)) -> Qh8 keys m (ins l n x) = ins (Qh8 keys m l) n x
 | [], _, _, _, _ => rfl
 | (j, c) :: m, l, n, x, h => by
  simp only [Qh8]
  rw [ins_upd_comm _ _ _ _ _ (h (j, c) (by simp)), updAll_ins m _ n x fun p hp => h p (by simp [hp])]

theorem memS_callD {d : Option Tmp} {f : FuncId} {args : List TV} {bx bx1 : List (Nat × Box)} {rows : List (Nat × Row)} {v : TV} (h : memS (C := C) d (.callD f args) bx rows = some (v, bx1)) :
  ∃ mb', bx1 = Qh8 (Qcs (cat AC.keys (cat TV.cellsOf args)) []) mb' bx /\ (∀ p ∈ mb', nth 0 (Qcs (cat AC.keys (cat TV.cellsOf args)) []) (p.1 - base) ∈ Qcs (cat AC.keys (cat TV.cellsOf args)) []) /\ v.plainB = true /\
   ∀ (d' : Option Tmp) (bx' : List (Nat × Box)), (∀ k ∈ Qcs (cat AC.keys (cat TV.cellsOf args)) [], look bx' k = look bx k) -> memS (C := C) d' (.callD f args) bx' rows = some (v, Qh8 (Qcs (cat AC.keys (cat TV.cellsOf args)) []) mb' bx') := by
 simp only [memS] at h ⊢
 generalize Qcs (cat AC.keys (cat TV.cellsOf args)) [] = keys at h ⊢
 cases h1 : C.spec f with
 | none => rw [h1] at h; simp at h
 | some g =>
  rw [h1] at h
  dsimp only at h ⊢
  split at h
  ·rename_i hc
   split at h
   ·rename_i mb hmb
    split at h
    ·rename_i v' mb' hg
     split at h
     ·rename_i hc2
      simp only [Option.some.injEq, Prod.mk.injEq] at h
      obtain ⟨rfl, rfl⟩ := h
      have hc2' := hc2
      simp only [Bool.and_eq_true] at hc2'
      refine ⟨mb', rfl, fun p hp => ?_, hc2'.2, fun d' bx' hl => ?_⟩
      ·obtain ⟨b, hb⟩ := hasKey_some (Qag.1 hc2'.1.1.1.2 p hp)
       obtain ⟨i, hi, e⟩ := (subB_look hmb).2 _ _ hb
       rw [e, show base + i - base = i from by omega]
       exact Qlv hi
      ·rw [allB_congr (q := fun k => allB AC.calm (Qgq bx k)) (fun k hk => by unfold Qgq; rw [hl k hk]), subB_congr keys base hl, hmb, if_pos hc]
       dsimp only
       rw [hg]
       dsimp only
       rw [if_pos hc2]
     ·simp at h
    ·simp at h
   ·simp at h
  ·simp at h

theorem updAll_keeps {keys : List Nat} : ∀ (m : List (Nat × Box)) (l : List (Nat × Box)) {n : Nat} {b : Box}, look l n = some b -> ∃ b', look (Qh8 keys m l) n = some b'
 | [], _, _, b, h => ⟨b, h⟩
 | (j, c) :: m, l, n, b, h => by
  simp only [Qh8]
  by_cases e : n = nth 0 keys (j - base)
  ·subst e; exact updAll_keeps m _ (Qcb _ _ _ _ h)
  ·exact updAll_keeps m _ (b := b) (by rw [Qa2 _ _ _ _ e]; exact h)
theorem memS_callD_keys {d : Option Tmp} {f : FuncId} {args : List TV} {bx bx1 : List (Nat × Box)} {rows : List (Nat × Row)} {v : TV} (h : memS (C := C) d (.callD f args) bx rows = some (v, bx1)) :
  ∀ k ∈ Qcs (cat AC.keys (cat TV.cellsOf args)) [], ∃ b, look bx k = some b := by
 simp only [memS] at h
 generalize Qcs (cat AC.keys (cat TV.cellsOf args)) [] = keys at h ⊢
 split at h
 ·split at h
  ·split at h
   ·rename_i mb hmb
    intro k hk
    obtain ⟨x, q, _⟩ := (subB_look hmb).1 (pos keys k) (Qhf hk).1
    rw [(Qhf hk).2] at q; exact ⟨x, q⟩
   ·simp at h
  ·simp at h
 ·simp at h

theorem memS_swap {di dj : Option Tmp} {pi pj : Prim} {bx bx1 bx2 : List (Nat × Box)} {rows : List (Nat × Row)} {vi vj : TV} (hi : memS (C := C) di pi bx rows = some (vi, bx1)) (hj : memS (C := C) dj pj bx1 rows = some (vj, bx2))
  (hm : Prim.meet (some pi) (some pj) = false) (hd : ∀ t, di = some t -> dj ≠ some t) (hwf : Prim.wf bx rows pj) :
  ∃ bx1', memS (C := C) dj pj bx rows = some (vj, bx1') /\ memS (C := C) di pi bx1' rows = some (vi, bx2) := by
 have hne : ∀ {a b : Nat}, Nat.beq a b = false -> a ≠ b := fun h e => by subst e; simp at h
 cases pi <;> simp only [memS] at hi <;> try (simp at hi; done)
 case val v => simp at hi; obtain ⟨rfl, rfl⟩ := hi; exact ⟨bx2, hj, rfl⟩
 case newView e ks l => simp at hi; obtain ⟨rfl, rfl⟩ := hi; exact ⟨bx2, hj, rfl⟩
 case rload g sz id idx sub =>
  obtain ⟨rfl, hc⟩ := memS_rload (C := C) (d := di) (by simpa only [memS] using hi)
  exact ⟨bx2, hj, hc _ _⟩
 case callD f args =>
  obtain ⟨mb', rfl, hin, _, hc⟩ := memS_callD (C := C) (d := di) (f := f) (args := args) (rows := rows) (by simpa only [memS] using hi)
  have hself := hc di bx fun _ _ => rfl
  have hkeys : ∀ k ∈ Qcs (cat AC.keys (cat TV.cellsOf args)) [], ∃ b, look bx k = some b := memS_callD_keys (C := C) (d := di) (f := f) (v := vi) (rows := rows) (by simpa only [memS] using hself)
  cases pj <;> simp only [memS] at hj <;> try (simp at hj; done)
  case val v => simp at hj; obtain ⟨rfl, rfl⟩ := hj; exact ⟨bx, rfl, hself⟩
  case newView e ks l => simp at hj; obtain ⟨rfl, rfl⟩ := hj; exact ⟨bx, rfl, hself⟩
  case rload g sz id idx sub =>
   obtain ⟨rfl, hcj⟩ := memS_rload (C := C) (d := dj) (by simpa only [memS] using hj)
   exact ⟨bx, hcj _ _, hself⟩
  case call f' args' =>
   obtain ⟨rfl, hcj⟩ := memS_call (d := dj) hj
   exact ⟨bx, hcj _ _, hself⟩
  case load g sz k' o' =>
   have hk : k' ∉ Qcs (cat AC.keys (cat TV.cellsOf args)) [] := fun e => by
    have := Qf8.2 e
    simp only [Prim.meet] at hm
    rw [hm] at this; cases this
   have hk2 : ∀ p ∈ mb', k' ≠ nth 0 (Qcs (cat AC.keys (cat TV.cellsOf args)) []) (p.1 - base) := fun p hp e => hk (by rw [e]; exact hin p hp)
   rw [Qfp _ _ _ hk2] at hj
   refine ⟨bx, ?_, ?_⟩
   ·simp only [memS]
    repeat' split at hj
    all_goals first | (simp at hj; done) | skip
    rename_i q1 _ _ q2
    simp at hj; obtain ⟨rfl, _⟩ := hj
    simp only [q1, q2]
   ·have : bx2 = Qh8 (Qcs (cat AC.keys (cat TV.cellsOf args)) []) mb' bx := by
     repeat' split at hj
     all_goals first | (simp at hj; done) | (simp at hj; exact hj.2.symm)
    rw [this]; exact hself
  case store k' o' cs' =>
   have hk : k' ∉ Qcs (cat AC.keys (cat TV.cellsOf args)) [] := fun e => by
    have := Qf8.2 e
    simp only [Prim.meet] at hm
    rw [hm] at this; cases this
   have hk2 : ∀ p ∈ mb', k' ≠ nth 0 (Qcs (cat AC.keys (cat TV.cellsOf args)) []) (p.1 - base) := fun p hp e => hk (by rw [e]; exact hin p hp)
   rw [Qfp _ _ _ hk2] at hj
   cases h2 : look bx k' with
   | none => rw [h2] at hj; simp at hj
   | some b' =>
    rw [h2] at hj
    dsimp only at hj
    split at hj
    ·rename_i hle'
     simp at hj
     obtain ⟨rfl, rfl⟩ := hj
     refine ⟨upd bx k' ⟨b'.ty, splice b'.cells o' cs'⟩, by simp only [memS, h2, hle', if_true], ?_⟩
     rw [hc di _ fun k hk' => Qa2 _ _ _ _ (by rintro rfl; exact hk hk'), updAll_upd _ _ _ _ hk2]
    ·simp at hj
  case new ty cs' =>
   split at hj
   ·rename_i d
    split at hj
    ·simp at hj
    ·rename_i hn
     simp at hj
     obtain ⟨rfl, rfl⟩ := hj
     have hk2 : ∀ p ∈ mb', d ≠ nth 0 (Qcs (cat AC.keys (cat TV.cellsOf args)) []) (p.1 - base) := fun p hp e => by
      have hthere : ∃ b, look bx d = some b := hkeys d (by rw [e]; exact hin p hp)
      obtain ⟨b, hb⟩ := hthere
      have : ∃ b', look (Qh8 (Qcs (cat AC.keys (cat TV.cellsOf args)) []) mb' bx) d = some b' := updAll_keeps _ _ hb
      obtain ⟨b', hb'⟩ := this
      rw [hn] at hb'; cases hb'
     have hkd : d ∉ Qcs (cat AC.keys (cat TV.cellsOf args)) [] := fun e => by
      obtain ⟨b, hb⟩ := hkeys d e
      obtain ⟨b', hb'⟩ := updAll_keeps (keys := Qcs (cat AC.keys (cat TV.cellsOf args)) []) mb' bx hb
      rw [hn] at hb'; cases hb'
     rw [Qfp _ _ _ hk2] at hn
     refine ⟨ins bx d ⟨ty, cs'⟩, by simp only [memS, hn], ?_⟩
     rw [hc di _ fun k hk' => Qa9 _ _ _ _ (by rintro rfl; exact hkd hk'), updAll_ins _ _ _ _ hk2]
   ·simp at hj
  case callD f' args' => simp [Prim.meet] at hm
 case call f args =>
  obtain ⟨rfl, hc⟩ := memS_call (d := di) hi
  exact ⟨bx2, hj, hc _ _⟩
 case load g sz key off =>
  cases h1 : look bx key with
  | none => rw [h1] at hi; simp at hi
  | some b =>
   rw [h1] at hi
   dsimp only at hi
   cases h2 : Qgi g sz b.cells off with
   | none => rw [h2] at hi; simp at hi
   | some v =>
    rw [h2] at hi; simp at hi
    obtain ⟨rfl, rfl⟩ := hi
    refine ⟨bx2, hj, ?_⟩
    have hl : look bx2 key = some b := by
     cases pj <;> simp only [memS] at hj <;> try (simp at hj; done)
     case val => simp at hj; rw [<- hj.2]; exact h1
     case newView => simp at hj; rw [<- hj.2]; exact h1
     case rload =>
      obtain ⟨rfl, _⟩ := memS_rload (C := C) (d := dj) (by simpa only [memS] using hj)
      exact h1
     case callD f args =>
      obtain ⟨mb', rfl, hin, _, _⟩ := memS_callD (C := C) (d := dj) (f := f) (args := args) (rows := rows) (by simpa only [memS] using hj)
      rw [Qfp _ _ _ fun p hp e => by
       have := Qf8.2 (hin p hp)
       rw [<- e] at this
       simp only [Prim.meet] at hm
       rw [hm] at this; cases this]
      exact h1
     case call =>
      obtain ⟨rfl, _⟩ := memS_call (d := dj) hj
      exact h1
     case load =>
      repeat' split at hj
      all_goals first | (simp at hj; done) | (simp at hj; rw [<- hj.2]; exact h1)
     case store k' o' cs' =>
      split at hj
      ·split at hj
       ·simp at hj; rw [<- hj.2, Qa2 _ _ _ _ (hne hm)]; exact h1
       ·simp at hj
      ·simp at hj
     case new ty cs =>
      split at hj
      ·rename_i d
       split at hj
       ·simp at hj
       ·rename_i hn
        simp at hj
        rw [<- hj.2, Qa9 _ _ _ _ (by rintro rfl; rw [hn] at h1; simp at h1)]; exact h1
      ·simp at hj
    simp only [memS, hl, h2]
 case store key off cs =>
  cases h1 : look bx key with
  | none => rw [h1] at hi; simp at hi
  | some b =>
   rw [h1] at hi
   dsimp only at hi
   split at hi
   ·rename_i hle
    simp at hi
    obtain ⟨rfl, rfl⟩ := hi
    cases pj <;> simp only [memS] at hj <;> try (simp at hj; done)
    case val v => simp at hj; obtain ⟨rfl, rfl⟩ := hj; exact ⟨bx, rfl, by simp only [memS, h1, hle, if_true]⟩
    case newView e ks l => simp at hj; obtain ⟨rfl, rfl⟩ := hj; exact ⟨bx, rfl, by simp only [memS, h1, hle, if_true]⟩
    case rload g sz id idx sub =>
     obtain ⟨rfl, hc⟩ := memS_rload (C := C) (d := dj) (by simpa only [memS] using hj)
     exact ⟨bx, hc _ _, by simp only [memS, h1, hle, if_true]⟩
    case callD f args =>
     obtain ⟨mb', rfl, hin, _, hc⟩ := memS_callD (C := C) (d := dj) (f := f) (args := args) (rows := rows) (by simpa only [memS] using hj)
     have hk : key ∉ Qcs (cat AC.keys (cat TV.cellsOf args)) [] := fun e => by
      have := Qf8.2 e
      simp only [Prim.meet] at hm
      rw [hm] at this; cases this
     have hk2 : ∀ p ∈ mb', key ≠ nth 0 (Qcs (cat AC.keys (cat TV.cellsOf args)) []) (p.1 - base) := fun p hp e => hk (by rw [e]; exact hin p hp)
     refine ⟨_, hc dj bx fun k hk' => (Qa2 _ _ _ _ (by rintro rfl; exact hk hk')).symm, ?_⟩
     simp only [memS]
     rw [Qfp _ _ _ hk2, h1]
     simp only [hle, if_true]
     rw [updAll_upd _ _ _ _ hk2]
    case call f args =>
     obtain ⟨rfl, hc⟩ := memS_call (d := dj) hj
     exact ⟨bx, hc _ _, by simp only [memS, h1, hle, if_true]⟩
    case load g sz k' o' =>
     have hk := hne hm
     rw [Qa2 _ _ _ _ (fun e => hk e.symm)] at hj
     refine ⟨bx, ?_, ?_⟩
     ·simp only [memS]
      repeat' split at hj
      all_goals first | (simp at hj; done) | skip
      rename_i q1 _ _ q2
      simp at hj; obtain ⟨rfl, _⟩ := hj
      simp only [q1, q2]
     ·have : bx2 = upd bx key ⟨b.ty, splice b.cells off cs⟩ := by
       repeat' split at hj
       all_goals first | (simp at hj; done) | (simp at hj; exact hj.2.symm)
      subst this
      simp only [memS, h1, hle, if_true]
    case store k' o' cs' =>
     have hk := hne hm
     rw [Qa2 _ _ _ _ (fun e => hk e.symm)] at hj
     cases h2 : look bx k' with
     | none => rw [h2] at hj; simp at hj
     | some b' =>
      rw [h2] at hj
      dsimp only at hj
      split at hj
      ·rename_i hle'
       simp at hj
       obtain ⟨rfl, rfl⟩ := hj
       refine ⟨upd bx k' ⟨b'.ty, splice b'.cells o' cs'⟩, by simp only [memS, h2, hle', if_true], ?_⟩
       simp only [memS]
       rw [Qa2 _ _ _ _ hk, h1]
       simp only [hle, if_true]
       rw [upd_comm _ _ _ _ _ hk]
      ·simp at hj
    case new ty cs' =>
     split at hj
     ·rename_i d
      split at hj
      ·simp at hj
      ·rename_i hn
       simp at hj
       obtain ⟨rfl, rfl⟩ := hj
       have hkd : d ≠ key := by
        rintro rfl
        rw [Qcb _ _ _ _ h1] at hn; simp at hn
       rw [Qa2 _ _ _ _ hkd] at hn
       refine ⟨ins bx d ⟨ty, cs'⟩, by simp only [memS, hn], ?_⟩
       simp only [memS]
       rw [Qa9 _ _ _ _ (fun e => hkd e.symm), h1]
       simp only [hle, if_true]
       rw [ins_upd_comm _ _ _ _ _ hkd]
     ·simp at hj
   ·simp at hi
 case new ty cs =>
  cases hdi : di with
  | none => rw [hdi] at hi; simp at hi
  | some d =>
   rw [hdi] at hi
   dsimp only at hi
   cases h1 : look bx d with
   | some _ => rw [h1] at hi; simp at hi
   | none =>
    rw [h1] at hi
    simp at hi
    obtain ⟨rfl, rfl⟩ := hi
    have hnew : ∀ bb, look bb d = none -> memS (C := C) (some d) (.new ty cs) bb rows = some (.c (.ptr d 0), ins bb d ⟨ty, cs⟩) := by
     intro bb hb; simp only [memS, hb]
    cases pj <;> simp only [memS] at hj <;> try (simp at hj; done)
    case val v => simp at hj; obtain ⟨rfl, rfl⟩ := hj; exact ⟨bx, rfl, hnew bx h1⟩
    case newView e ks l => simp at hj; obtain ⟨rfl, rfl⟩ := hj; exact ⟨bx, rfl, hnew bx h1⟩
    case rload g sz id idx sub =>
     obtain ⟨rfl, hc⟩ := memS_rload (C := C) (d := dj) (by simpa only [memS] using hj)
     exact ⟨bx, hc _ _, hnew bx h1⟩
    case callD f args =>
     obtain ⟨mb', rfl, hin, _, hc⟩ := memS_callD (C := C) (d := dj) (f := f) (args := args) (rows := rows) (by simpa only [memS] using hj)
     have hk : d ∉ Qcs (cat AC.keys (cat TV.cellsOf args)) [] := fun e => by
      obtain ⟨b, hb⟩ := key_there hwf e
      rw [h1] at hb; cases hb
     have hk2 : ∀ p ∈ mb', d ≠ nth 0 (Qcs (cat AC.keys (cat TV.cellsOf args)) []) (p.1 - base) := fun p hp e => hk (by rw [e]; exact hin p hp)
     refine ⟨_, hc dj bx fun k hk' => (Qa9 _ _ _ _ (by rintro rfl; exact hk hk')).symm, ?_⟩
     rw [hnew _ (by rw [Qfp _ _ _ hk2]; exact h1), updAll_ins _ _ _ _ hk2]
    case call f args =>
     obtain ⟨rfl, hc⟩ := memS_call (d := dj) hj
     exact ⟨bx, hc _ _, hnew bx h1⟩
    case load g sz k' o' =>
     obtain ⟨b', hb'⟩ := hwf
     have hk : k' ≠ d := by rintro rfl; rw [h1] at hb'; simp at hb'
     rw [Qa9 _ _ _ _ hk] at hj
     refine ⟨bx, ?_, ?_⟩
     ·simp only [memS]
      repeat' split at hj
      all_goals first | (simp at hj; done) | skip
      rename_i q1 _ _ q2
      simp at hj; obtain ⟨rfl, _⟩ := hj
      simp only [q1, q2]
     ·have : bx2 = ins bx d ⟨ty, cs⟩ := by
       repeat' split at hj
       all_goals first | (simp at hj; done) | (simp at hj; exact hj.2.symm)
      subst this
      exact hnew bx h1
    case store k' o' cs' =>
     obtain ⟨⟨b', hb'⟩, _⟩ := hwf
     have hk : k' ≠ d := by rintro rfl; rw [h1] at hb'; simp at hb'
     rw [Qa9 _ _ _ _ hk, hb'] at hj
     dsimp only at hj
     split at hj
     ·rename_i hle'
      simp at hj
      obtain ⟨rfl, rfl⟩ := hj
      refine ⟨upd bx k' ⟨b'.ty, splice b'.cells o' cs'⟩, by simp only [memS, hb', hle', if_true], ?_⟩
      rw [hnew _ (by rw [Qa2 _ _ _ _ (fun e => hk e.symm)]; exact h1), ins_upd_comm _ _ _ _ _ (fun e => hk e.symm)]
     ·simp at hj
    case new ty' cs' =>
     cases hdj : dj with
     | none => rw [hdj] at hj; simp at hj
     | some e =>
      rw [hdj] at hj
      dsimp only at hj
      have hde : d ≠ e := by rintro rfl; exact hd d hdi hdj
      rw [Qa9 _ _ _ _ (fun q => hde q.symm)] at hj
      cases h2 : look bx e with
      | some _ => rw [h2] at hj; simp at hj
      | none =>
       rw [h2] at hj
       simp at hj
       obtain ⟨rfl, rfl⟩ := hj
       refine ⟨ins bx e ⟨ty', cs'⟩, by simp only [memS, h2], ?_⟩
       rw [hnew _ (by rw [Qa9 _ _ _ _ hde]; exact h1), ins_comm _ _ _ _ _ hde]
end
end Go.Bm
