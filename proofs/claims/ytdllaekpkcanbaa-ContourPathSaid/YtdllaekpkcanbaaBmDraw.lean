/- The abstract machine, second form: a region that draws its order: every order comes to what the text's order comes to. -/
import Derived.Test.YtdllaekpkcanbaaBmCode
set_option linter.unusedVariables false
set_option linter.unusedSimpArgs false
namespace Go.Bm
open Go.RowKit

def putS (s : St) (d : Option Tmp) (v : TV) : St :=
 match d with
 | none => s
 | some t => ⟨setL s.tmps t v, s.boxes, s.rows⟩

section
variable {P : Program} {C : Cfg} {w : World} {R : Type} {Z : Base}

theorem putS_eq (s : St) (d : Option Tmp) (v : TV) (K : St -> Option R) : put s d v K = K (putS s d v) := put_eq s d v K

def memS (dst : Option Tmp) (p : Prim) (boxes : List (Nat × Box)) (rows : List (Nat × Row)) : Option (TV × List (Nat × Box)) :=
 match p with
 | .val v => some (v, boxes)
 | .load g sz key off => match look boxes key with
  | some b => match Qgi g sz b.cells off with
   | some v => some (v, boxes)
   | none => none
  | none => none
 | .store key off cs => match look boxes key with
  | some b => if Nat.ble (off + cs.length) b.cells.length then some (.dead, upd boxes key ⟨b.ty, splice b.cells off cs⟩) else none
  | none => none
 | .new ty cs => match dst with
  | some d => match look boxes d with
   | some _ => none
   | none => some (.c (.ptr d 0), ins boxes d ⟨ty, cs⟩)
  | none => none
 | .newView _ ks l => some (.c (.view ks l), boxes)
 | .rload g sz id idx sub => match look rows id with
  | some r => match Qgi g sz (r.f idx) sub with
   | some v => some (v, boxes)
   | none => none
  | none => none
 | .call f args => match C.spec f with
  | some g => match resArgs rows args with
   | some l => match g (TV × Mem) l ⟨[], []⟩ (fun v m => some (v, m)) with
    | some (v, ⟨[], []⟩) => if ((!(args.any TV.hasOwn) || v.flat) && v.plainB) = true then some (v, boxes) else none
    | _ => none
   | none => none
  | none => none
 | .callD f args => match C.spec f with
  | some g =>
   if (allB (TV.inK (Qcs (cat AC.keys (cat TV.cellsOf args)) []) []) args && allB (fun k => allB AC.calm (Qgq boxes k)) (Qcs (cat AC.keys (cat TV.cellsOf args)) []) && Qco (Qcs (cat AC.keys (cat TV.cellsOf args)) [])) = true then
    match subB boxes (fun k => base + pos (Qcs (cat AC.keys (cat TV.cellsOf args)) []) k) (fun i => base + pos [] i) base (Qcs (cat AC.keys (cat TV.cellsOf args)) []) with
    | some mb => match g (TV × Mem) (args.map (TV.ren (fun k => base + pos (Qcs (cat AC.keys (cat TV.cellsOf args)) []) k) (fun i => base + pos [] i))) ⟨mb, []⟩ (fun v m => some (v, m)) with
     | some (v, ⟨mb', []⟩) =>
      if (allB (fun p : Nat × Box => Qm7 mb' p.1) mb && allB (fun p : Nat × Box => Qm7 mb p.1) mb' && Qco (mb'.map (·.1)) && allB (fun p : Nat × Box => allB AC.calm p.2.cells) mb' && v.plainB) = true then
       some (v, Qh8 (Qcs (cat AC.keys (cat TV.cellsOf args)) []) mb' boxes)
      else none
     | _ => none
    | none => none
   else none
  | none => none
 | _ => none

theorem memS_eq (hspec : Qan P C) {dst : Option Tmp} {p : Prim} (hs : Prim.simple (some p) = true) (hna : Prim.isApp (some p) = false) (hnm : Prim.isMk (some p) = false) (s : St) (K : TV -> St -> Option R) :
  memK C dst p s K = (memS (C := C) dst p s.boxes s.rows).bind fun q => K q.1 ⟨s.tmps, q.2, s.rows⟩ := by
 obtain ⟨tm, boxes, rows⟩ := s
 cases p <;> simp only [Prim.simple] at hs <;> try (simp at hs; done)
 case appD => simp [Prim.isApp] at hna
 case callF => simp [Prim.isMk] at hnm
 case newRow => simp [Prim.isMk] at hnm
 case val v => rfl
 case newView e ks l => rfl
 case rload g sz id idx sub =>
  simp only [memK, memS]
  cases h1 : look rows id with
  | none => rfl
  | some r =>
   dsimp only
   cases h2 : Qgi g sz (r.f idx) sub <;> rfl
 case load g sz key off =>
  simp only [memK, memS]
  cases h1 : look boxes key with
  | none => rfl
  | some b =>
   dsimp only
   cases h2 : Qgi g sz b.cells off <;> rfl
 case store key off cs =>
  simp only [memK, memS]
  cases h1 : look boxes key with
  | none => rfl
  | some b =>
   dsimp only
   cases Nat.ble (off + cs.length) b.cells.length
   ·rfl
   ·simp only [cond_true, Qay, if_true, Option.bind_some]
 case new ty cs =>
  simp only [memK, memS]
  cases dst with
  | none => rfl
  | some d =>
   dsimp only
   cases h1 : look boxes d with
   | some _ => rfl
   | none => simp only [Qay, Option.bind_some]
 case call f args =>
  simp only [memK, memS]
  cases h1 : C.spec f with
  | none => rfl
  | some g =>
   dsimp only
   cases h2 : resArgs rows args with
   | none => rfl
   | some l =>
    dsimp only
    have hsp := hspec f g h1
    rw [hsp.nat]
    cases h3 : g (TV × Mem) l ⟨[], []⟩ (fun v m => some (v, m)) with
    | none => rfl
    | some q =>
     obtain ⟨v, ⟨mb, mr⟩⟩ := q
     simp only [Option.bind_some]
     cases mb with
     | cons _ _ => rfl
     | nil =>
      cases mr with
      | cons _ _ => rfl
      | nil =>
       dsimp only
       cases ((!(args.any TV.hasOwn) || v.flat) && v.plainB) <;> rfl
 case callD f args =>
  simp only [memK, memS]
  cases h1 : C.spec f with
  | none => rfl
  | some g =>
   dsimp only
   simp only [Qay]
   generalize Qcs (cat AC.keys (cat TV.cellsOf args)) [] = keys
   cases hc : (allB (TV.inK keys []) args && allB (fun k => allB AC.calm (Qgq boxes k)) keys && Qco keys)
   ·simp
   ·simp only [cond_true, if_true]
    cases h2 : subB boxes (fun k => base + pos keys k) (fun i => base + pos [] i) base keys with
    | none => rfl
    | some mb =>
     dsimp only
     have hsp := hspec f g h1
     rw [hsp.nat]
     cases h3 : g (TV × Mem) (args.map (TV.ren (fun k => base + pos keys k) (fun i => base + pos [] i))) ⟨mb, []⟩ (fun v m => some (v, m)) with
     | none => rfl
     | some q =>
      obtain ⟨v, ⟨mb', mr⟩⟩ := q
      simp only [Option.bind_some]
      cases mr with
      | cons _ _ => rfl
      | nil =>
       dsimp only
       cases (allB (fun p : Nat × Box => Qm7 mb' p.1) mb && allB (fun p : Nat × Box => Qm7 mb p.1) mb' && Qco (mb'.map (·.1)) && allB (fun p : Nat × Box => allB AC.calm p.2.cells) mb' && v.plainB) <;> rfl

theorem Qci {α : Type} {c : Bool} {p : Option α} {q : α} (h : cond c p none = some q) : c = true /\ p = some q := by cases c <;> simp at h; exact ⟨rfl, h⟩

def appR (rows : List (Nat × Row)) (e : TypeId) (ks : List Kd) (bytes id : Nat) (x : AC) : Option (TV × List (Nat × Row)) :=
 match source rows ks x with
 | some m => match look rows id with
  | some r => if (kdsEq ks r.ks && Nat.beq r.ty e && Nat.ble 1 bytes) = true then
    if Nat.ble ((r.l ++ m).length * bytes) 140737488355328 = true then some (.c (.own id r.ks.length (r.l ++ m).length), upd rows id ⟨e, r.ks, r.l ++ m⟩) else none
   else none
  | none => none
 | none => none
def killS (id : Nat) (tm : List TV) (bx : List (Nat × Box)) (rows : List (Nat × Row)) : St := ⟨tm.map (TV.kill id), bx.map fun p => (p.1, p.2.kill id), rows⟩
def appN (rows : List (Nat × Row)) (e : TypeId) (ks : List Kd) (bytes d : Nat) (x : AC) : Option (TV × List (Nat × Row)) :=
 match source rows ks x with
 | some m => match look rows d with
  | some _ => none
  | none => if (Nat.ble 1 ks.length && Nat.ble 1 bytes) = true then
    if Nat.ble (m.length * bytes) 140737488355328 = true then some (.c (.own d ks.length m.length), ins rows d ⟨e, ks, m⟩) else none
   else none
 | none => none
def appId (dst : Option Tmp) : Prim -> Option Nat
 | .appD _ _ _ (.own id _ _) _ => some id
 | .appD _ _ _ .nilSl _ => dst
 | _ => none
def appG (dst : Option Tmp) (rows : List (Nat × Row)) : Prim -> Option (TV × List (Nat × Row))
 | .appD e ks bytes (.own id _ _) x => appR rows e ks bytes id x
 | .appD e ks bytes .nilSl x => match dst with
  | some d => appN rows e ks bytes d x
  | none => none
 | _ => none
def mkG (dst : Option Tmp) (p : Prim) : Option (TV × Option (Nat × Row)) :=
 match p with
 | .newRow e ks l => match dst with
  | some d => some (.c (.own (C.rowAs d) ks.length l.length), some (C.rowAs d, ⟨e, ks, l⟩))
  | none => none
 | .callF f args => match C.spec f with
  | some g => if allB TV.plainB args = true then match g (TV × Mem) args ⟨[], []⟩ (fun v m => some (v, m)) with
    | some (v, ⟨[], []⟩) => if v.plainB = true then some (v, none) else none
    | some (.v false [.own j _ _], ⟨[], [(k, r)]⟩) => if Nat.beq j k = true then some (.c (.own (mkKey (dst.getD 0)) r.ks.length r.l.length), some (mkKey (dst.getD 0), r)) else none
    | _ => none
   else none
  | none => none
 | _ => none
def mkD (dst : Option Tmp) (p : Prim) (rows : List (Nat × Row)) : Option (TV × List (Nat × Row)) :=
 match mkG (C := C) dst p with
 | some (v, none) => some (v, rows)
 | some (v, some (k, r)) => match look rows k with
  | some _ => none
  | none => some (v, ins rows k r)
 | none => none
def memD (dst : Option Tmp) (p : Prim) (s : St) : Option (TV × St) :=
 bif Prim.isApp (some p) then match appId dst p with
  | some id => (appG dst s.rows p).map fun q => (q.1, killS id s.tmps s.boxes q.2)
  | none => none
 else bif Prim.isMk (some p) then (mkD (C := C) dst p s.rows).map fun q => (q.1, ⟨s.tmps, s.boxes, q.2⟩)
 else (memS (C := C) dst p s.boxes s.rows).map fun q => (q.1, ⟨s.tmps, q.2, s.rows⟩)

theorem memD_eq (hspec : Qan P C) {dst : Option Tmp} {p : Prim} (hs : Prim.simple (some p) = true) (s : St) (K : TV -> St -> Option R) :
  memK C dst p s K = (memD (C := C) dst p s).bind fun q => K q.1 q.2 := by
 cases hp : Prim.isApp (some p) with
 | false =>
  cases hk : Prim.isMk (some p) with
  | false =>
   rw [memS_eq hspec hs (by rw [hp]) hk]
   unfold memD
   rw [hp, hk]
   simp only [cond_false]
   cases memS (C := C) dst p s.boxes s.rows <;> rfl
  | true =>
   obtain ⟨tm, boxes, rows⟩ := s
   unfold memD
   rw [hp, hk]
   simp only [cond_false, cond_true]
   cases p <;> simp [Prim.isMk] at hk
   case newRow e ks l =>
    simp only [memK, mkD, mkG]
    cases dst with
    | none => rfl
    | some d =>
     dsimp only
     cases look rows (C.rowAs d) with
     | some _ => rfl
     | none => simp only [Qay]; rfl
   case callF f args =>
    simp only [memK, mkD, mkG]
    cases h1 : C.spec f with
    | none => rfl
    | some g =>
     dsimp only
     cases h2 : allB TV.plainB args
     ·rfl
     simp only [cond_true, if_true]
     have hsp := hspec f g h1
     rw [hsp.nat]
     cases h3 : g (TV × Mem) args ⟨[], []⟩ (fun v m => some (v, m)) with
     | none => rfl
     | some q =>
      obtain ⟨v, ⟨mb, mr⟩⟩ := q
      simp only [Option.bind_some]
      cases mb with
      | cons _ _ => cases v <;> rfl
      | nil =>
       cases mr with
       | nil =>
        dsimp only
        cases v.plainB <;> rfl
       | cons p l =>
        obtain ⟨k, r⟩ := p
        cases l with
        | cons _ _ => rfl
        | nil =>
         dsimp only
         split
         ·rename_i j w0 n0
          cases hjk : Nat.beq j k
          ·simp only [hjk, Bool.false_eq_true, if_false]; rfl
          ·simp only [cond_true, hjk, if_true]
           cases hl : look rows (mkKey (dst.getD 0)) with
           | some _ => simp only [hl]; rfl
           | none => simp only [Qay, hl]; rfl
         ·rename_i hno
          cases v with
          | dead => rfl
          | tup ps => rfl
          | v g cs =>
           cases g with
           | true => rfl
           | false =>
            cases cs with
            | nil => rfl
            | cons a l =>
             cases l with
             | cons _ _ => cases a <;> rfl
             | nil => cases a <;> first | rfl | exact absurd rfl (hno _ _ _)
 | true =>
  obtain ⟨tm, boxes, rows⟩ := s
  cases p <;> simp [Prim.isApp] at hp
  rename_i e ks bytes sv x
  unfold memD
  simp only [Prim.isApp, cond_true, memK]
  cases sv
  case own id w' n =>
   dsimp only [appId, appG, appR]
   cases source rows ks x with
   | none => rfl
   | some m =>
    dsimp only
    cases look rows id with
    | none => rfl
    | some r =>
     dsimp only
     cases (kdsEq ks r.ks && Nat.beq r.ty e && Nat.ble 1 bytes)
     ·rfl
     ·simp only [cond_true, if_true]
      cases Nat.ble ((r.l ++ m).length * bytes) 140737488355328
      ·rfl
      ·simp only [cond_true, if_true, Qay]; rfl
  case nilSl =>
   dsimp only [appId, appG]
   cases dst with
   | none => cases source rows ks x <;> rfl
   | some d =>
    dsimp only [appN]
    cases source rows ks x with
    | none => rfl
    | some m =>
     dsimp only
     cases look rows d with
     | some _ => rfl
     | none =>
      dsimp only
      cases (Nat.ble 1 ks.length && Nat.ble 1 bytes)
      ·rfl
      ·simp only [cond_true, if_true]
       cases Nat.ble (m.length * bytes) 140737488355328
       ·rfl
       ·simp only [cond_true, if_true, Qay]; rfl
  all_goals
   dsimp only [appId]
   cases source rows ks x <;> rfl

theorem memK_some (hspec : Qan P C) {dst : Option Tmp} {p : Prim} {s : St} {K : TV -> St -> Option R} {r : R} (h : memK C dst p s K = some r) : ∃ v s', K v s' = some r := by
 obtain ⟨tm, boxes, rows⟩ := s
 cases p <;> simp only [memK] at h
 case val v => exact ⟨_, _, h⟩
 case newView e ks l => exact ⟨_, _, h⟩
 case load g sz key off =>
  repeat' split at h
  all_goals first | (simp at h; done) | exact ⟨_, _, h⟩
 case store key off cs =>
  split at h
  ·rename_i b _
   cases hb : Nat.ble (off + cs.length) b.cells.length <;> rw [hb] at h
   ·simp at h
   ·simp only [cond_true, Qay] at h; exact ⟨_, _, h⟩
  ·simp at h
 case new ty cs =>
  split at h
  ·split at h
   ·simp at h
   ·simp only [Qay] at h; exact ⟨_, _, h⟩
  ·simp at h
 case rload g sz id idx sub =>
  repeat' split at h
  all_goals first | (simp at h; done) | exact ⟨_, _, h⟩
 case rstore id idx sub cs =>
  split at h
  ·rename_i r0 _
   cases hb : (Nat.ble (sub + cs.length) r0.w && allB AC.plain cs) <;> rw [hb] at h
   ·simp at h
   ·simp only [cond_true] at h
    split at h
    ·simp only [Qay] at h; exact ⟨_, _, h⟩
    ·simp at h
  ·simp at h
 case newRow e ks l =>
  split at h
  ·split at h
   ·simp at h
   ·simp only [Qay] at h; exact ⟨_, _, h⟩
  ·simp at h
 case make e ks bytes n z =>
  split at h
  ·split at h
   ·simp at h
   ·obtain ⟨_, h⟩ := Qci h
    simp only [Qay] at h; exact ⟨_, _, h⟩
  ·simp at h
 case append e ks bytes s x =>
  split at h
  ·split at h
   ·split at h
    ·split at h
     ·simp at h
     ·obtain ⟨_, h⟩ := Qci h
      obtain ⟨_, h⟩ := Qci h
      simp only [Qay] at h; exact ⟨_, _, h⟩
    ·simp at h
   ·split at h
    ·obtain ⟨_, h⟩ := Qci h
     obtain ⟨_, h⟩ := Qci h
     simp only [Qay] at h; exact ⟨_, _, h⟩
    ·simp at h
   ·simp at h
  ·simp at h
 case call f args =>
  split at h
  ·rename_i g hg
   split at h
   ·obtain ⟨v, m, h', _⟩ := (hspec f g hg).run h
    split at h'
    ·obtain ⟨_, h'⟩ := Qci h'
     exact ⟨_, _, h'⟩
    ·simp at h'
   ·simp at h
  ·simp at h
 case callM f args =>
  split at h
  ·rename_i g hg
   simp only [Qay] at h
   obtain ⟨_, h⟩ := Qci h
   split at h
   ·obtain ⟨v, m, h', _⟩ := (hspec f g hg).run h
    obtain ⟨_, h'⟩ := Qci h'
    exact ⟨_, _, h'⟩
   ·simp at h
  ·simp at h
 case callF f args =>
  split at h
  ·rename_i g hg
   obtain ⟨_, h⟩ := Qci h
   obtain ⟨v, m, h', _⟩ := (hspec f g hg).run h
   split at h'
   ·obtain ⟨_, h'⟩ := Qci h'
    exact ⟨_, _, h'⟩
   ·split at h'
    ·obtain ⟨_, h'⟩ := Qci h'
     split at h'
     ·simp at h'
     ·simp only [Qay] at h'
      exact ⟨_, _, h'⟩
    ·simp at h'
   ·simp at h'
  ·simp at h
 case appD e ks bytes s x =>
  split at h
  ·split at h
   ·split at h
    ·obtain ⟨_, h⟩ := Qci h
     obtain ⟨_, h⟩ := Qci h
     simp only [Qay] at h; exact ⟨_, _, h⟩
    ·simp at h
   ·split at h
    ·split at h
     ·simp at h
     ·obtain ⟨_, h⟩ := Qci h
      obtain ⟨_, h⟩ := Qci h
      simp only [Qay] at h; exact ⟨_, _, h⟩
    ·simp at h
   ·simp at h
  ·simp at h
 case callD f args =>
  split at h
  ·rename_i g hg
   simp only [Qay] at h
   obtain ⟨_, h⟩ := Qci h
   split at h
   ·obtain ⟨v, m, h', _⟩ := (hspec f g hg).run h
    split at h'
    ·obtain ⟨_, h'⟩ := Qci h'
     exact ⟨_, _, h'⟩
    ·simp at h'
   ·simp at h
  ·simp at h

theorem memK_nat (hspec : Qan P C) (dst : Option Tmp) (p : Prim) (s : St) (K : TV -> St -> Option R) : memK C dst p s K = (memK C dst p s fun v s' => some (v, s')).bind fun q => K q.1 q.2 := by
 obtain ⟨tm, boxes, rows⟩ := s
 cases p <;> simp only [memK, Qay]
 case val v => rfl
 case newView e ks l => rfl
 case load g sz key off =>
  cases look boxes key with
  | none => rfl
  | some b =>
   dsimp only
   cases Qgi g sz b.cells off <;> rfl
 case store key off cs =>
  cases look boxes key with
  | none => rfl
  | some b =>
   dsimp only
   cases Nat.ble (off + cs.length) b.cells.length <;> rfl
 case new ty cs =>
  cases dst with
  | none => rfl
  | some d =>
   dsimp only
   cases look boxes d <;> rfl
 case rload g sz id idx sub =>
  cases look rows id with
  | none => rfl
  | some r =>
   dsimp only
   cases Qgi g sz (r.f idx) sub <;> rfl
 case rstore id idx sub cs =>
  cases look rows id with
  | none => rfl
  | some r =>
   dsimp only
   cases (Nat.ble (sub + cs.length) r.w && allB AC.plain cs)
   ·rfl
   ·simp only [cond_true]
    cases fitL r.ks (splice (r.f idx) sub cs) <;> rfl
 case newRow e ks l =>
  cases dst with
  | none => rfl
  | some d =>
   dsimp only
   cases look rows (C.rowAs d) <;> rfl
 case make e ks bytes n z =>
  cases dst with
  | none => rfl
  | some d =>
   dsimp only
   cases look rows d with
   | some _ => rfl
   | none =>
    dsimp only
    cases (decide (0 <= n) && decide (n * (bytes : Int) <= 140737488355328)) <;> rfl
 case append e ks bytes s x =>
  cases source rows ks x with
  | none => rfl
  | some m =>
   dsimp only
   cases s
   case nilSl =>
    dsimp only
    cases dst with
    | none => rfl
    | some d =>
     dsimp only
     cases look rows d with
     | some _ => rfl
     | none =>
      dsimp only
      cases (Nat.ble 1 ks.length && Nat.ble 1 bytes)
      ·rfl
      ·simp only [cond_true]
       cases Nat.ble (m.length * bytes) 140737488355328 <;> rfl
   case own id w' n =>
    dsimp only
    cases look rows id with
    | none => rfl
    | some r =>
     dsimp only
     cases (kdsEq ks r.ks && Nat.beq r.ty e && Nat.ble 1 bytes)
     ·rfl
     ·simp only [cond_true]
      cases Nat.ble ((r.l ++ m).length * bytes) 140737488355328 <;> rfl
   all_goals rfl
 case appD e ks bytes s x =>
  cases source rows ks x with
  | none => rfl
  | some m =>
   dsimp only
   cases s
   case nilSl =>
    dsimp only
    cases dst with
    | none => rfl
    | some d =>
     dsimp only
     cases look rows d with
     | some _ => rfl
     | none =>
      dsimp only
      cases (Nat.ble 1 ks.length && Nat.ble 1 bytes)
      ·rfl
      ·simp only [cond_true]
       cases Nat.ble (m.length * bytes) 140737488355328 <;> rfl
   case own id w' n =>
    dsimp only
    cases look rows id with
    | none => rfl
    | some r =>
     dsimp only
     cases (kdsEq ks r.ks && Nat.beq r.ty e && Nat.ble 1 bytes)
     ·rfl
     ·simp only [cond_true]
      cases Nat.ble ((r.l ++ m).length * bytes) 140737488355328 <;> rfl
   all_goals rfl
 case call f args =>
  cases hg : C.spec f with
  | none => rfl
  | some g =>
   dsimp only
   cases resArgs rows args with
   | none => rfl
   | some l =>
    dsimp only
    have hsp := hspec f g hg
    rw [hsp.nat, hsp.nat (TV × St)]
    cases g (TV × Mem) l ⟨[], []⟩ (fun v m => some (v, m)) with
    | none => rfl
    | some q =>
     obtain ⟨v, ⟨mb, mr⟩⟩ := q
     simp only [Option.bind_some]
     cases mb with
     | cons _ _ => rfl
     | nil =>
      cases mr with
      | cons _ _ => rfl
      | nil =>
       dsimp only
       cases ((!(args.any TV.hasOwn) || v.flat) && v.plainB) <;> rfl
 case callM f args =>
  cases hg : C.spec f with
  | none => rfl
  | some g =>
   dsimp only
   have hsp := hspec f g hg
   generalize reachN boxes 4 (Qcs (cat AC.keys (cat TV.cellsOf args)) []) = keys
   generalize idsOf boxes (cat TV.cellsOf args) keys = ids
   cases (allB (TV.inK keys ids) args && allB (fun k => allB (AC.inK keys ids) (Qgq boxes k)) keys && Qco keys && Qco ids)
   ·rfl
   ·simp only [cond_true]
    cases subB boxes (fun k => base + pos keys k) (fun i => base + pos ids i) base keys with
    | none => cases subR rows base ids <;> rfl
    | some mb =>
     cases subR rows base ids with
     | none => rfl
     | some mr =>
      dsimp only
      rw [hsp.nat, hsp.nat (TV × St)]
      cases g (TV × Mem) (args.map (TV.ren (fun k => base + pos keys k) (fun i => base + pos ids i))) ⟨mb, mr⟩ (fun v m => some (v, m)) with
      | none => rfl
      | some q =>
       obtain ⟨v, ⟨mb', mr'⟩⟩ := q
       simp only [Option.bind_some]
       cases (allB (fun p : Nat × Box => Qm7 mb' p.1) mb && Qco (mb'.map (·.1)) && Qco (mr'.map (·.1)) && allB (fun k => noKey boxes (Qi1 keys (Qdq keys mb') (dst.getD 0) k)) (Qdq keys mb') && allB (fun k => noKey rows (Qi1 ids (Qdq ids mr') (dst.getD 0) k)) (Qdq ids mr') && Nat.ble (Qdq keys mb').length 100 && Nat.ble (Qdq ids mr').length 100) <;> rfl
 case callF f args =>
  cases hg : C.spec f with
  | none => rfl
  | some g =>
   dsimp only
   have hsp := hspec f g hg
   cases allB TV.plainB args
   ·rfl
   ·simp only [cond_true]
    rw [hsp.nat, hsp.nat (TV × St)]
    cases g (TV × Mem) args ⟨[], []⟩ (fun v m => some (v, m)) with
    | none => rfl
    | some q =>
     obtain ⟨v, ⟨mb, mr⟩⟩ := q
     simp only [Option.bind_some]
     cases mb with
     | cons _ _ => rfl
     | nil =>
      cases mr with
      | nil => dsimp only; cases v.plainB <;> rfl
      | cons p l =>
       obtain ⟨k, r⟩ := p
       cases l with
       | cons _ _ => rfl
       | nil =>
        dsimp only
        split
        ·rename_i j w0 n0
         cases Nat.beq j k
         ·rfl
         ·simp only [cond_true]
          cases look rows (mkKey (dst.getD 0)) <;> rfl
        ·rfl
 case callD f args =>
  cases hg : C.spec f with
  | none => rfl
  | some g =>
   dsimp only
   have hsp := hspec f g hg
   generalize Qcs (cat AC.keys (cat TV.cellsOf args)) [] = keys
   cases (allB (TV.inK keys []) args && allB (fun k => allB AC.calm (Qgq boxes k)) keys && Qco keys)
   ·rfl
   ·simp only [cond_true]
    cases subB boxes (fun k => base + pos keys k) (fun i => base + pos [] i) base keys with
    | none => rfl
    | some mb =>
     dsimp only
     rw [hsp.nat, hsp.nat (TV × St)]
     cases g (TV × Mem) (args.map (TV.ren (fun k => base + pos keys k) (fun i => base + pos [] i))) ⟨mb, []⟩ (fun v m => some (v, m)) with
     | none => rfl
     | some q =>
      obtain ⟨v, ⟨mb', mr'⟩⟩ := q
      simp only [Option.bind_some]
      cases mr' with
      | cons _ _ => rfl
      | nil =>
       dsimp only
       cases (allB (fun p : Nat × Box => Qm7 mb' p.1) mb && allB (fun p : Nat × Box => Qm7 mb p.1) mb' && Qco (mb'.map (·.1)) && allB (fun p : Nat × Box => allB AC.calm p.2.cells) mb' && v.plainB) <;> rfl

theorem freezeK_nat : ∀ (l : List Nat) (s : St) (K : St -> Option R), freezeK l s K = (freezeK l s some).bind K
 | [], s, K => rfl
 | id :: l, ⟨tm, boxes, rows⟩, K => by
  simp only [freezeK, Qay]
  cases look rows id with
  | none => exact freezeK_nat l _ K
  | some r => exact freezeK_nat l _ K
theorem promStep_nat (k o : Nat) (e : TypeId) (s : St) (K : St -> Option R) : promStep P k o e s K = (promStep P k o e s some).bind K := by
 obtain ⟨tm, boxes, rows⟩ := s
 simp only [promStep, Qay]
 cases look boxes k with
 | none => rfl
 | some b =>
  dsimp only
  cases nth .dead b.cells o <;> try rfl
  dsimp only
  cases kindsT P 8 e with
  | none => rfl
  | some ks =>
   dsimp only
   cases (Nat.ble 1 ks.length && noKey rows (1000000 + 1000 * k + o)) <;> rfl
theorem promL_nat : ∀ (l : List (Nat × Nat × TypeId)) (s : St) (K : St -> Option R), promL P l s K = (promL P l s some).bind K
 | [], s, K => rfl
 | (k, o, e) :: l, s, K => by
  simp only [promL]
  rw [promStep_nat, promStep_nat (K := fun s' => promL P l s' some)]
  cases promStep P k o e s some with
  | none => rfl
  | some s' => exact promL_nat l s' K
theorem tidyK_nat (s : St) (K : St -> Option R) : tidyK P C s K = (tidyK P C s some).bind K := by
 simp only [tidyK, Qay]
 rw [promL_nat]
 conv => rhs; rw [promL_nat]
 cases promL P (cat (fun p : Nat × Box => bif Qej C.ownBut p.1 then [] else (C.ownOff p.2.ty).map fun q => (p.1, q.1, q.2)) s.boxes) s some <;> rfl
theorem preK_nat (o : Op) (s : St) (K : St -> Option R) : preK P C o s K = (preK P C o s some).bind K := by
 unfold preK
 rw [freezeK_nat]
 conv => rhs; rw [freezeK_nat]
 cases freezeK (preIds C (evOf s.tmps) o) s some with
 | none => rfl
 | some s' =>
  simp only [Option.bind_some]
  cases isCallM C o
  ·rfl
  ·exact tidyK_nat s' K
theorem operK_nat (hspec : Qan P C) (pre : Bool) (ops : List Oper) (o : Oper) (s : St) (K : Option Prim -> St -> Option R) : operK P C pre ops o s K = (operK P C pre ops o s fun p s' => some (p, s')).bind fun q => K q.1 q.2 := by
 have hrun : ∀ s : St, ((bif pre then preK P C o.op s else fun K => K s) fun s => opK P C (evOf s.tmps) o.dst o.op fun p => memK C o.dst (p.dr pre) s fun v s' => put s' o.dst v (K (some (p.dr pre)))) =
   ((bif pre then preK P C o.op s else fun K => K s) fun s => opK P C (evOf s.tmps) o.dst o.op fun p => memK C o.dst (p.dr pre) s fun v s' => put s' o.dst v ((fun p s' => some (p, s')) (some (p.dr pre)))).bind fun q => K q.1 q.2 := by
  have h1 : ∀ s : St, (opK P C (evOf s.tmps) o.dst o.op fun p => memK C o.dst (p.dr pre) s fun v s' => put s' o.dst v (K (some (p.dr pre)))) = (opK P C (evOf s.tmps) o.dst o.op fun p => memK C o.dst (p.dr pre) s fun v s' => put s' o.dst v ((fun p s' => some (p, s')) (some (p.dr pre)))).bind fun q => K q.1 q.2 := by
   intro s
   rw [opK_bind]
   conv => rhs; rw [opK_bind]
   cases opK P C (evOf s.tmps) o.dst o.op some with
   | none => rfl
   | some p =>
    simp only [Option.bind_some]
    rw [memK_nat hspec]
    conv => rhs; rw [memK_nat hspec]
    cases memK C o.dst (p.dr pre) s fun v s' => some (v, s') with
    | none => rfl
    | some q => simp only [Option.bind_some, putS_eq]
  intro s
  cases pre
  ·exact h1 s
  ·simp only [cond_true]
   rw [preK_nat]
   conv => rhs; rw [preK_nat]
   cases preK P C o.op s some with
   | none => rfl
   | some s' => exact h1 s'
 have hskip : ∀ s : St, put s o.dst (.tup []) (K none) = (put s o.dst (.tup []) ((fun p s' => some (p, s')) none)).bind fun q => K q.1 q.2 := by
  intro s
  simp only [putS_eq, Option.bind_some]
 unfold operK guardK
 cases o.guard with
 | none => exact hrun s
 | some jw =>
  obtain ⟨j, want⟩ := jw
  dsimp only
  cases ops[j]? with
  | none => rfl
  | some oj =>
   dsimp only
   cases oj.dst with
   | none => rfl
   | some t =>
    dsimp only
    split
    ·rename_i g _
     cases g
     ·simp only [cond_false]
      rw [put_eq]
      conv => rhs; rw [put_eq]
      cases want
      ·exact hrun _
      ·exact hskip _
     ·simp only [cond_true]
      rw [put_eq]
      conv => rhs; rw [put_eq]
      cases want
      ·exact hskip _
      ·exact hrun _
    ·exact hskip _
    ·rfl

def Qls (ops : List Oper) (o : Oper) (tm : List TV) : Option Bool :=
 match o.guard with
 | none => some true
 | some (j, want) => match ops[j]? with
  | some oj => match oj.dst with
   | some t => match nth .dead tm t with
    | .c (.bool g) => some (g == want)
    | .tup [] => some false
    | _ => none
   | none => none
  | none => none

def Qog (ops : List Oper) (o : Oper) (s : St) : Option (Option Prim × St) :=
 match Qls ops o s.tmps with
 | some true => (opK P C (evOf s.tmps) o.dst o.op some).bind fun p => (memD (C := C) o.dst (p.dr false) s).bind fun q => some (some (p.dr false), putS q.2 o.dst q.1)
 | some false => some (none, putS s o.dst (.tup []))
 | none => none

theorem setL_self {tm : List TV} {t : Nat} {v : TV} (h : nth .dead tm t = v) (hv : v ≠ .dead) : setL tm t v = tm := by
 rw [Qg3, List.getD] at h
 rw [setL_eq]
 cases ht : tm[t]? with
 | none => rw [ht] at h; simp at h; exact absurd h.symm hv
 | some u =>
  rw [ht] at h
  simp at h; subst h
  apply List.ext_getElem?
  intro i
  rw [List.getElem?_set]
  split
  ·rename_i e; subst e
   split
   ·exact ht.symm
   ·rename_i hlt; rw [List.getElem?_eq_none (by omega)]
  ·rfl

theorem operK_eq (hspec : Qan P C) {ops : List Oper} {o : Oper} {s : St} {K : Option Prim -> St -> Option R} {r : R} (h : operK P C false ops o s K = some r) :
  (∃ p s', Qog (P := P) (C := C) ops o s = some (p, s') /\ K p s' = some r) \/ (∃ p s', K (some p) s' = some r /\ Prim.simple (some p) = false) := by
 have hrun : ∀ s1 : St, Qls ops o s.tmps = some true -> s1 = s -> (opK P C (evOf s1.tmps) o.dst o.op fun p => memK C o.dst (p.dr false) s1 fun v s' => put s' o.dst v (K (some (p.dr false)))) = some r ->
   (∃ p s', Qog (P := P) (C := C) ops o s = some (p, s') /\ K p s' = some r) \/ (∃ p s', K (some p) s' = some r /\ Prim.simple (some p) = false) := by
  rintro s1 hw rfl h
  rw [opK_bind] at h
  cases hp : opK P C (evOf s1.tmps) o.dst o.op some with
  | none => rw [hp] at h; simp at h
  | some p =>
   rw [hp] at h
   simp only [Option.bind_some] at h
   cases hs : Prim.simple (some (p.dr false))
   ·right
    obtain ⟨v, s', hk⟩ := memK_some hspec h
    rw [putS_eq] at hk
    exact ⟨p.dr false, _, hk, hs⟩
   ·left
    rw [memD_eq hspec hs] at h
    cases hm : memD (C := C) o.dst (p.dr false) s1 with
    | none => rw [hm] at h; simp at h
    | some q =>
     rw [hm] at h
     simp only [Option.bind_some, putS_eq] at h
     refine ⟨some (p.dr false), _, ?_, h⟩
     simp only [Qog, hw, hp, Option.bind_some, hm]
 have hskip : ∀ s1 : St, Qls ops o s.tmps = some false -> s1 = s -> put s1 o.dst (.tup []) (K none) = some r ->
   (∃ p s', Qog (P := P) (C := C) ops o s = some (p, s') /\ K p s' = some r) \/ (∃ p s', K (some p) s' = some r /\ Prim.simple (some p) = false) := by
  rintro s1 hw rfl h
  rw [putS_eq] at h
  exact .inl ⟨none, _, by simp only [Qog, hw], h⟩
 unfold operK guardK at h
 cases hg : o.guard with
 | none =>
  rw [hg] at h
  exact hrun s (by simp [Qls, hg]) rfl h
 | some jw =>
  obtain ⟨j, want⟩ := jw
  rw [hg] at h
  simp only at h
  split at h
  ·rename_i oj hj
   split at h
   ·rename_i t ht
    split at h
    ·rename_i g hgv
     have hw : Qls ops o s.tmps = some (g == want) := by simp only [Qls, hg, hj, ht, hgv]
     have hself : ∀ b, g = b -> (⟨setL s.tmps t (.c (.bool b)), s.boxes, s.rows⟩ : St) = s := by
      rintro b rfl
      rw [setL_self hgv (by simp)]
     cases g
     ·simp only [cond_false] at h
      rw [put_eq] at h
      dsimp only at h
      cases want
      ·exact hrun _ (by rw [hw]; rfl) (hself false rfl) h
      ·exact hskip _ (by rw [hw]; rfl) (hself false rfl) h
     ·simp only [cond_true] at h
      rw [put_eq] at h
      dsimp only at h
      cases want
      ·exact hskip _ (by rw [hw]; rfl) (hself true rfl) h
      ·exact hrun _ (by rw [hw]; rfl) (hself true rfl) h
    ·rename_i hgv
     exact hskip _ (by simp only [Qls, hg, hj, ht, hgv]) rfl h
    ·simp at h
   ·simp at h
  ·simp at h

def stepG (P : Program) (C : Cfg) (ops : List Oper) (m : List Nat) (i : Nat) (o : Oper) (s : St) : Option (Option Prim × St) :=
 if wildI ops m i = true then operK P C true ops o s fun p s' => some (p, s') else Qog (P := P) (C := C) ops o s

def runC (P : Program) (C : Cfg) (ops : List Oper) (m : List Nat) : List (Nat × Oper × Option Prim) -> St -> St -> Prop
 | [], s, s' => s = s'
 | (i, o, p) :: l, s, s' => ∃ s1, stepG P C ops m i o s = some (p, s1) /\ runC P C ops m l s1 s'

theorem drawK_runC (hspec : Qan P C) {ops : List Oper} {m : List Nat} : ∀ (l : List Oper) (i : Nat) (s : St) (K : List (Oper × Option Prim) -> St -> Option R) (r : R), drawK P C ops m l i s K = some r ->
  (∃ (ps : List (Nat × Oper × Option Prim)) (sf : St), ps.map (·.2.1) = l /\ ps.map (·.1) = List.range' i l.length /\ runC P C ops m ps s sf /\ K (ps.map (·.2)) sf = some r) \/
  (∃ (acc : List (Oper × Option Prim)) (sf : St), K acc sf = some r /\ ∃ (j : Nat) (q : Oper × Option Prim), acc[j]? = some q /\ (wildI ops m (i + j) || Prim.simple q.2) = false)
 | [], i, s, K, r, h => .inl ⟨[], s, rfl, rfl, rfl, h⟩
 | o :: l, i, s, K, r, h => by
  simp only [drawK] at h
  have hstep : (∃ p s1, stepG P C ops m i o s = some (p, s1) /\ drawK P C ops m l (i + 1) s1 (fun rest sf => K ((o, p) :: rest) sf) = some r) \/
    (∃ p s1, drawK P C ops m l (i + 1) s1 (fun rest sf => K ((o, some p) :: rest) sf) = some r /\ (wildI ops m i || Prim.simple (some p)) = false) := by
   cases hw : wildI ops m i
   ·rw [hw] at h
    rcases operK_eq hspec h with ⟨p, s1, h1, h2⟩ | ⟨p, s1, h1, h2⟩
    ·exact .inl ⟨p, s1, by unfold stepG; rw [if_neg (by rw [hw]; simp)]; exact h1, h2⟩
    ·exact .inr ⟨p, s1, h1, by simpa using h2⟩
   ·rw [hw, operK_nat hspec] at h
    cases hk : operK P C true ops o s fun p s' => some (p, s') with
    | none => rw [hk] at h; simp at h
    | some q =>
     rw [hk] at h
     exact .inl ⟨q.1, q.2, by unfold stepG; rw [if_pos hw]; exact hk, h⟩
  rcases hstep with ⟨p, s1, h1, h2⟩ | ⟨p, s1, h1, h2⟩
  ·rcases drawK_runC hspec l (i + 1) s1 _ r h2 with ⟨ps, sf, q1, q2, q3, q4⟩ | ⟨acc, sf, q1, j, q, q2, q3⟩
   ·exact .inl ⟨(i, o, p) :: ps, sf, by simp [q1], by simp [q2, List.range'_succ], ⟨s1, h1, q3⟩, q4⟩
   ·exact .inr ⟨_, sf, q1, j + 1, q, by simp [q2], by rw [show i + (j + 1) = i + 1 + j from by omega]; exact q3⟩
  ·rcases drawK_runC hspec l (i + 1) s1 _ r h1 with ⟨ps, sf, q1, q2, q3, q4⟩ | ⟨acc, sf, q1, j, q, q2, q3⟩
   ·exact .inr ⟨_, sf, q4, 0, (o, some p), by simp, h2⟩
   ·exact .inr ⟨_, sf, q1, j + 1, q, by simp [q2], by rw [show i + (j + 1) = i + 1 + j from by omega]; exact q3⟩
end
end Go.Bm
