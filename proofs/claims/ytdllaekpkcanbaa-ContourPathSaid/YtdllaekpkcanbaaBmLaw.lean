/- The abstract machine, second form: what every seat's laws need. -/
import Derived.Test.YtdllaekpkcanbaaBmCall
import Derived.Test.YtdllaekpkcanbaaBmRow
set_option linter.unusedVariables false
set_option linter.unusedSimpArgs false
namespace Go.Bm

theorem cond_noneU {α : Type 1} {c : Bool} {p : Option α} {q : α} (h : cond c p none = some q) : c = true /\ p = some q := by cases c <;> simp at h; exact ⟨rfl, h⟩

theorem lookS_mem : ∀ {l : List (Nat × Spec)} {k : Nat} {b : Spec}, Qbq l k = some b -> (k, b) ∈ l
 | [], _, _, h => by simp [Qbq] at h
 | (j, c) :: l, k, b, h => by
  simp only [Qbq] at h
  cases hb : Nat.beq j k <;> rw [hb] at h
  ·simp only [cond_false] at h; exact List.mem_cons_of_mem _ (lookS_mem h)
  ·simp at h; subst h; rw [Nat.eq_of_beq_eq_true hb]; simp
def callableB (P : Program) (f : FuncId) : Bool := match P.funcs[f]? with
 | some fn => !(fn.name == "runtime.NumGoroutine") && fn.body.isSome
 | none => false
theorem callable_of {P : Program} {f : FuncId} (h : callableB P f = true) : Callable P f := by
 unfold callableB at h
 split at h
 ·rename_i fn hf
  simp only [Bool.and_eq_true, Bool.not_eq_true'] at h
  exact ⟨fn, hf, h.1, by cases hb : fn.body <;> simp_all⟩
 ·cases h

def Qbv (P : Program) (p : Nat × Spec) : Prop := SpecRight P p.1 p.2
def AllOK (P : Program) : List (Nat × Spec) -> Prop
 | [] => True
 | p :: l => Qbv P p /\ AllOK P l
theorem AllOK.mem {P : Program} : ∀ {l : List (Nat × Spec)}, AllOK P l -> ∀ p ∈ l, Qbv P p
 | _ :: l, h, p, hp => by
  rcases List.mem_cons.1 hp with rfl | hp
  ·exact h.1
  ·exact AllOK.mem h.2 p hp
theorem Qad {P : Program} {C : Cfg} {l : List (Nat × Spec)} (hC : C.spec = Qbq l) (h : AllOK P l) : Qan P C := by
 intro f g hg
 rw [hC] at hg
 exact h.mem _ (lookS_mem hg)

theorem Qab {x : Int} (h : -9223372036854775808 <= x /\ x <= 9223372036854775807) : IntKind.i64.wrap x = x := by
 simp [IntKind.wrap, IntKind.signed, IntKind.bits]
 omega

section loops
variable {step : List AC -> Option (Nat × List AC)}
theorem loopF_mono : ∀ {n : Nat} {vars : List AC} {o : Nat × List AC}, loopF step n vars = some o -> loopF step (n + 1) vars = some o
 | 0, _, _, h => by simp [loopF] at h
 | n + 1, vars, o, h => by
  rw [loopF] at h ⊢
  simp only [Option.bind_eq_some_iff] at h ⊢
  obtain ⟨q, h1, h2⟩ := h
  refine ⟨q, h1, ?_⟩
  split at h2
  ·rename_i h0; rw [if_pos h0]; exact loopF_mono h2
  ·rename_i h0; rw [if_neg h0]; exact h2
theorem loopF_le {n m : Nat} {vars : List AC} {o : Nat × List AC} (hnm : n <= m) (h : loopF step n vars = some o) : loopF step m vars = some o := by
 induction hnm with
 | refl => exact h
 | step _ ih => exact loopF_mono ih
theorem loopF_one {n m : Nat} {vars : List AC} {o o' : Nat × List AC} (h : loopF step n vars = some o) (h' : loopF step m vars = some o') : o = o' := by
 have h1 := loopF_le (Nat.le_max_left n m) h
 have h2 := loopF_le (Nat.le_max_right n m) h'
 rw [h1] at h2; simpa using h2

open Classical in
noncomputable def Qb1 (step : List AC -> Option (Nat × List AC)) (vars : List AC) : Option (Nat × List AC) :=
 if h : ∃ n o, loopF step n vars = some o then loopF step (Classical.choose h) vars else none
theorem loopC_ex {vars : List AC} {o : Nat × List AC} (h : Qb1 step vars = some o) : ∃ n, loopF step n vars = some o := by
 unfold Qb1 at h
 split at h
 ·exact ⟨_, h⟩
 ·simp at h
theorem loopC_of {n : Nat} {vars : List AC} {o : Nat × List AC} (h : loopF step n vars = some o) : Qb1 step vars = some o := by
 unfold Qb1
 have hx : ∃ n o, loopF step n vars = some o := ⟨n, o, h⟩
 rw [dif_pos hx]
 obtain ⟨o', ho'⟩ := Classical.choose_spec hx
 rw [ho', loopF_one h ho']
theorem loopC_eq (vars : List AC) : Qb1 step vars = (step vars).bind fun o => if o.1 = 0 then Qb1 step o.2 else some o := by
 cases hs : step vars with
 | none =>
  cases hl : Qb1 step vars with
  | none => rfl
  | some o =>
   obtain ⟨n, hn⟩ := loopC_ex hl
   cases n with
   | zero => simp [loopF] at hn
   | succ n => simp [loopF, hs] at hn
 | some q =>
  simp only [Option.bind_some]
  by_cases h0 : q.1 = 0
  ·rw [if_pos h0]
   cases hl : Qb1 step q.2 with
   | none =>
    cases hl2 : Qb1 step vars with
    | none => rfl
    | some o =>
     obtain ⟨n, hn⟩ := loopC_ex hl2
     cases n with
     | zero => simp [loopF] at hn
     | succ n =>
      simp only [loopF, hs, Option.bind_some, if_pos h0] at hn
      rw [loopC_of hn] at hl; cases hl
   | some o =>
    obtain ⟨n, hn⟩ := loopC_ex hl
    exact loopC_of (n := n + 1) (by simp only [loopF, hs, Option.bind_some, if_pos h0]; exact hn)
  ·rw [if_neg h0]
   exact loopC_of (n := 1) (by simp only [loopF, hs, Option.bind_some, if_neg h0])
end loops

theorem Ql8 : ∀ (c : Code) (b blk : Nat) (body : Code), (blk, body) ∈ Qbl c b -> (∀ p ∈ Qbl body blk, p ∈ Qbl c b) /\ (∀ p ∈ Qbc body, p ∈ Qbc c) /\ (∀ p ∈ Qcg body blk, p ∈ Qcg c b)
 | .seq x y, b, blk, body, h => by
  simp only [Qbl, List.mem_append] at h
  rcases h with h | h
  ·obtain ⟨h1, h2, h3⟩ := Ql8 x b blk body h
   exact ⟨fun p hp => by simp [Qbl, h1 p hp], fun p hp => by simp [Qbc, h2 p hp], fun p hp => by simp [Qcg, h3 p hp]⟩
  ·obtain ⟨h1, h2, h3⟩ := Ql8 y b blk body h
   exact ⟨fun p hp => by simp [Qbl, h1 p hp], fun p hp => by simp [Qbc, h2 p hp], fun p hp => by simp [Qcg, h3 p hp]⟩
 | .cond c x y, b, blk, body, h => by
  simp only [Qbl, List.mem_append] at h
  rcases h with h | h
  ·obtain ⟨h1, h2, h3⟩ := Ql8 x b blk body h
   exact ⟨fun p hp => by simp [Qbl, h1 p hp], fun p hp => by simp [Qbc, h2 p hp], fun p hp => by cases c <;> simp [Qcg, h3 p hp]⟩
  ·obtain ⟨h1, h2, h3⟩ := Ql8 y b blk body h
   exact ⟨fun p hp => by simp [Qbl, h1 p hp], fun p hp => by simp [Qbc, h2 p hp], fun p hp => by cases c <;> simp [Qcg, h3 p hp]⟩
 | .block id x, b, blk, body, h => by
  simp only [Qbl] at h
  obtain ⟨h1, h2, h3⟩ := Ql8 x b blk body h
  exact ⟨fun p hp => by simp [Qbl, h1 p hp], fun p hp => by simp [Qbc, h2 p hp], fun p hp => by simp [Qcg, h3 p hp]⟩
 | .loop x, b, blk, body, h => by
  simp only [Qbl, List.mem_cons, Prod.mk.injEq] at h
  rcases h with ⟨rfl, rfl⟩ | h
  ·exact ⟨fun p hp => by rw [Qhr _ _ b] at hp; simp [Qbl, hp], fun p hp => by simp [Qbc, hp], fun p hp => by rw [Qhn _ _ b] at hp; simp [Qcg, hp]⟩
  ·obtain ⟨h1, h2, h3⟩ := Ql8 x b blk body h
   exact ⟨fun p hp => by simp [Qbl, h1 p hp], fun p hp => by simp [Qbc, h2 p hp], fun p hp => by simp [Qcg, h3 p hp]⟩
 | .skip, _, _, _, h => by simp [Qbl] at h
 | .region _ _ _, _, _, _, h => by simp [Qbl] at h
 | .exit _, _, _, _, h => by simp [Qbl] at h
 | .ret, _, _, _, h => by simp [Qbl] at h
 | .rangeFunc _ _ _ _, _, _, _, h => by simp [Qbl] at h
 | .scope _, _, _, _, h => by simp [Qbl] at h
 | .label _, _, _, _, h => by simp [Qbl] at h
 | .goto _, _, _, _, h => by simp [Qbl] at h
 | .refuse _, _, _, _, h => by simp [Qbl] at h

theorem Qjr : ∀ (c : Code) (b id : Nat) (body : Code), (id, body) ∈ Qbc c -> (∀ p ∈ Qbl body id, p ∈ Qbl c b) /\ (∀ p ∈ Qbc body, p ∈ Qbc c) /\ (∀ p ∈ Qcg body id, p ∈ Qcg c b)
 | .seq x y, b, id, body, h => by
  simp only [Qbc, List.mem_append] at h
  rcases h with h | h
  ·obtain ⟨h1, h2, h3⟩ := Qjr x b id body h
   exact ⟨fun p hp => by simp [Qbl, h1 p hp], fun p hp => by simp [Qbc, h2 p hp], fun p hp => by simp [Qcg, h3 p hp]⟩
  ·obtain ⟨h1, h2, h3⟩ := Qjr y b id body h
   exact ⟨fun p hp => by simp [Qbl, h1 p hp], fun p hp => by simp [Qbc, h2 p hp], fun p hp => by simp [Qcg, h3 p hp]⟩
 | .cond c x y, b, id, body, h => by
  simp only [Qbc, List.mem_append] at h
  rcases h with h | h
  ·obtain ⟨h1, h2, h3⟩ := Qjr x b id body h
   exact ⟨fun p hp => by simp [Qbl, h1 p hp], fun p hp => by simp [Qbc, h2 p hp], fun p hp => by cases c <;> simp [Qcg, h3 p hp]⟩
  ·obtain ⟨h1, h2, h3⟩ := Qjr y b id body h
   exact ⟨fun p hp => by simp [Qbl, h1 p hp], fun p hp => by simp [Qbc, h2 p hp], fun p hp => by cases c <;> simp [Qcg, h3 p hp]⟩
 | .block j x, b, id, body, h => by
  simp only [Qbc, List.mem_cons, Prod.mk.injEq] at h
  rcases h with ⟨rfl, rfl⟩ | h
  ·exact ⟨fun p hp => by rw [Qhr _ _ b] at hp; simp [Qbl, hp], fun p hp => by simp [Qbc, hp], fun p hp => by rw [Qhn _ _ b] at hp; simp [Qcg, hp]⟩
  ·obtain ⟨h1, h2, h3⟩ := Qjr x b id body h
   exact ⟨fun p hp => by simp [Qbl, h1 p hp], fun p hp => by simp [Qbc, h2 p hp], fun p hp => by simp [Qcg, h3 p hp]⟩
 | .loop x, b, id, body, h => by
  simp only [Qbc] at h
  obtain ⟨h1, h2, h3⟩ := Qjr x b id body h
  exact ⟨fun p hp => by simp [Qbl, h1 p hp], fun p hp => by simp [Qbc, h2 p hp], fun p hp => by simp [Qcg, h3 p hp]⟩
 | .skip, _, _, _, h => by simp [Qbc] at h
 | .region _ _ _, _, _, _, h => by simp [Qbc] at h
 | .exit _, _, _, _, h => by simp [Qbc] at h
 | .ret, _, _, _, h => by simp [Qbc] at h
 | .rangeFunc _ _ _ _, _, _, _, h => by simp [Qbc] at h
 | .scope _, _, _, _, h => by simp [Qbc] at h
 | .label _, _, _, _, h => by simp [Qbc] at h
 | .goto _, _, _, _, h => by simp [Qbc] at h
 | .refuse _, _, _, _, h => by simp [Qbc] at h

structure FnOK (P : Program) (C : Cfg) (f : FuncId) : Prop where
 l : ∀ p ∈ fnLoops P f, ∀ sk g, C.loops p.1 = some (sk, g) -> SemOK P (.loop p.2) sk g
 b : ∀ p ∈ fnBlocks P f, ∀ sk g, C.blocks p.1 = some (sk, g) -> SemOK P (.block p.1 p.2) sk g
 c : ∀ p ∈ fnConds P f, ∀ sk g, C.conds p.1 = some (sk, g) -> SemOK P (.cond (.tmp p.1) p.2.2.1 p.2.2.2) sk g

theorem FnOK.bare {P : Program} {C : Cfg} {f : FuncId} (h1 : C.loops = fun _ => none) (h2 : C.blocks = fun _ => none) (h3 : C.conds = fun _ => none) : FnOK P C f :=
 ⟨fun p _ sk g h => by simp [h1] at h, fun p _ sk g h => by simp [h2] at h, fun p _ sk g h => by simp [h3] at h⟩

theorem FnOK.sub {P : Program} {C : Cfg} {f : FuncId} (h : FnOK P C f) {c : Code} (hc : codeOf P f = some c) : SubOK P C c 0 :=
 ⟨fun p hp => h.l p (by unfold fnLoops; rw [hc]; exact hp), fun p hp => h.b p (by unfold fnBlocks; rw [hc]; exact hp), fun p hp => h.c p (by unfold fnConds; rw [hc]; exact hp)⟩

theorem bodyOf_mem {P : Program} {f blk : Nat} {c : Code} (h : look (fnLoops P f) blk = some c) : Qhz P f blk = c := by unfold Qhz; rw [h]

theorem mem_look {α : Type} : ∀ {l : List (Nat × α)} {k : Nat} {b : α}, Qco (l.map (·.1)) = true -> (k, b) ∈ l -> look l k = some b
 | [], _, _, _, h => by simp at h
 | (j, c) :: l, k, b, hd, h => by
  have hd' := Qfb.1 hd
  simp only [List.map_cons, List.nodup_cons] at hd'
  simp only [look]
  rcases List.mem_cons.1 h with h | h
  ·simp at h; obtain ⟨rfl, rfl⟩ := h; simp
  ·have : j ≠ k := by rintro rfl; exact hd'.1 (List.mem_map.2 ⟨(j, b), h, rfl⟩)
   rw [beq_ne this]
   exact mem_look (Qfb.2 hd'.2) h

theorem FnOK.subLoop {P : Program} {C : Cfg} {f : FuncId} (h : FnOK P C f) {blk : Nat} {body : Code} (hm : (blk, body) ∈ fnLoops P f) : SubOK P C body blk := by
 unfold fnLoops at hm
 split at hm
 ·rename_i c hc
  obtain ⟨h1, h2, h3⟩ := Ql8 c 0 blk body hm
  exact ⟨fun p hp => h.l p (by unfold fnLoops; rw [hc]; exact h1 p hp), fun p hp => h.b p (by unfold fnBlocks; rw [hc]; exact h2 p hp), fun p hp => h.c p (by unfold fnConds; rw [hc]; exact h3 p hp)⟩
 ·simp at hm
theorem FnOK.subBlock {P : Program} {C : Cfg} {f : FuncId} (h : FnOK P C f) {id : Nat} {body : Code} (hm : (id, body) ∈ fnBlocks P f) : SubOK P C body id := by
 unfold fnBlocks at hm
 split at hm
 ·rename_i c hc
  obtain ⟨h1, h2, h3⟩ := Qjr c 0 id body hm
  exact ⟨fun p hp => h.l p (by unfold fnLoops; rw [hc]; exact h1 p hp), fun p hp => h.b p (by unfold fnBlocks; rw [hc]; exact h2 p hp), fun p hp => h.c p (by unfold fnConds; rw [hc]; exact h3 p hp)⟩
 ·simp at hm

theorem FnOK.loop {P : Program} {C : Cfg} {f : FuncId} (h : FnOK P C f) (hspec : Qan P C) (hok : ∀ t ∈ C.eqOk, P.stoodInHeld t = false) (hmix : P.follows .mixedOrders = true) {L blk : Nat} {sk : Sk} {exits : List (Ex × Sk)}
  (hd : Qco ((fnLoops P f).map (·.1)) = true) (hsk : sk.okB = true) : FnOK P (C.loop blk sk exits (Qb1 (stepL P C L blk (Qhz P f blk) sk exits))) f := by
 refine ⟨fun p hp sk' g hg => ?_, h.b, h.c⟩
 simp only [Cfg.loop] at hg
 cases hb : Nat.beq p.1 blk <;> rw [hb] at hg
 ·exact h.l p hp sk' g hg
 ·have e := Nat.eq_of_beq_eq_true hb
  subst e
  simp only [cond_true, Option.some.injEq, Prod.mk.injEq] at hg
  obtain ⟨rfl, rfl⟩ := hg
  have hbody := bodyOf_mem (mem_look (k := p.1) (b := p.2) hd hp)
  rw [hbody]
  exact loop_told hspec hok hmix hsk (h.subLoop hp) fun vars o ho => loopC_ex ho

theorem FnOK.block {P : Program} {C : Cfg} {f : FuncId} (h : FnOK P C f) (hspec : Qan P C) (hok : ∀ t ∈ C.eqOk, P.stoodInHeld t = false) (hmix : P.follows .mixedOrders = true) {L id : Nat} {sk : Sk} {exits : List (Ex × Sk)}
  (hd : Qco ((fnBlocks P f).map (·.1)) = true) : FnOK P (C.block id sk exits (blockM P C L id (blockOf P f id) sk exits)) f := by
 refine ⟨h.l, fun p hp sk' g hg => ?_, h.c⟩
 simp only [Cfg.block] at hg
 cases hb : Nat.beq p.1 id <;> rw [hb] at hg
 ·exact h.b p hp sk' g hg
 ·have e := Nat.eq_of_beq_eq_true hb
  subst e
  simp only [cond_true, Option.some.injEq, Prod.mk.injEq] at hg
  obtain ⟨rfl, rfl⟩ := hg
  have hbody : blockOf P f p.1 = p.2 := by unfold blockOf; rw [mem_look (k := p.1) (b := p.2) hd hp]
  rw [hbody]
  exact block_told hspec hok hmix (h.subBlock hp) fun vars o ho => ho

theorem Qa7 {P : Program} {C : Cfg} {f : FuncId} {L : Nat} {sig osig : Sk} (hc : callableB P f = true) (h : FnOK P C f) (hspec : Qan P C) (hok : ∀ t ∈ C.eqOk, P.stoodInHeld t = false) (hmix : P.follows .mixedOrders = true)
  (h1 : sig.okB = true) (h2 : osig.okB = true) : Qbv P (f, spOf sig osig (Qat P C L f sig osig)) :=
 fun_told hspec hok hmix (callable_of hc) h1 h2 (fun _ hcode => h.sub hcode) fun _ _ ho => ho

theorem callM_of {P : Program} {C : Cfg} {f : FuncId} {L : Nat} {sig osig : Sk} (_ : callableB P f = true) (h : FnOK P C f) (hspec : Qan P C) (hok : ∀ t ∈ C.eqOk, P.stoodInHeld t = false) (hmix : P.follows .mixedOrders = true)
  (h1 : sig.okB = true) (h2 : osig.okB = true) (args : List TV) (v : TV) (mem' : Mem) (hrun : (spOf sig osig (Qat P C L f sig osig) (TV × Mem) args ⟨[], []⟩ fun v m => some (v, m)) = some (v, mem')) : PCallM P f args ⟨[], []⟩ v mem' :=
 fun_calls hspec hok hmix h1 h2 (fun _ hcode => h.sub hcode) (fun _ _ ho => ho) hrun
theorem row_none {P : Program} {f : FuncId} {sig osig : Sk} : Qbv P (f, spOf sig osig fun _ => none) := by
 refine ⟨spOf_nat, fun args mem v mem' h => ?_⟩
 obtain ⟨boxes, rows⟩ := mem
 simp only [spOf] at h
 obtain ⟨_, h⟩ := Qci h
 split at h
 ·simp at h
 ·simp at h

def autoSpec (P : Program) (C0 : Cfg) (L : Nat) : Nat -> FuncId -> Option Spec
 | 0, f => C0.spec f
 | n + 1, f => match C0.spec f with
  | some g => some g
  | none => bif callableB P f then some (fun _ args mem K => match funM P { C0 with spec := autoSpec P C0 L n } L f args mem (fun v m => some (v, m)) with
   | some (v, m) => K v m
   | none => none) else none
theorem autoSpec_ok {P : Program} {C0 : Cfg} {L : Nat} (h0 : Qan P C0) (h1 : C0.loops = fun _ => none) (h2 : C0.blocks = fun _ => none) (h3 : C0.conds = fun _ => none) (hok : ∀ t ∈ C0.eqOk, P.stoodInHeld t = false) (hmix : P.follows .mixedOrders = true) :
  ∀ n, Qan P { C0 with spec := autoSpec P C0 L n }
 | 0 => by intro f g hg; exact h0 f g hg
 | n + 1 => by
  intro f g hg
  simp only [autoSpec] at hg
  split at hg
  ·rename_i g' hg'
   simp only [Option.some.injEq] at hg
   subst hg
   exact h0 f _ hg'
  ·obtain ⟨hc, hg⟩ := cond_noneU hg
   have hg := Option.some.inj hg
   subst hg
   refine ⟨fun R args mem K => ?_, fun args mem v mem' h => ?_⟩
   ·dsimp only
    cases funM P { C0 with spec := autoSpec P C0 L n } L f args mem (fun v m => some (v, m)) with
    | none => rfl
    | some p => rfl
   ·refine PCallM.x (v := v) (mem' := mem') (funM_ok (autoSpec_ok h0 h1 h2 h3 hok hmix n) hok hmix (L := L) (fun c hcode => FnOK.sub (C := { C0 with spec := autoSpec P C0 L n }) (FnOK.bare h1 h2 h3) hcode) ?_) (callable_of hc)
    cases hf : funM P { C0 with spec := autoSpec P C0 L n } L f args mem (fun v m => some (v, m)) with
    | none => rw [hf] at h; simp at h
    | some p => obtain ⟨p1, p2⟩ := p; rw [hf] at h; simpa using h
section
variable {H α : Type}
theorem spec3 (F G : List (DataW H) -> α) (h : ∀ a b c, F [a, b, c] = G [a, b, c]) (l : List (DataW H)) (hl : l.length = 3) : F l = G l := by
 match l, hl with
 | [a, b, c], _ => exact h a b c
end

theorem ars_cons {l : List Ar} {s : Bool × List Kd} {shs : List (Bool × List Kd)} (h : l.map Ar.sh = s :: shs) : ∃ a l', l = a :: l' /\ a.agg = s.1 /\ a.ks = s.2 /\ l'.map Ar.sh = shs := by
 cases l with
 | nil => simp at h
 | cons a l' =>
  simp only [List.map_cons, List.cons.injEq] at h
  refine ⟨a, l', rfl, ?_, ?_, h.2⟩
  ·rw [<- h.1]; rfl
  ·rw [<- h.1]; rfl
theorem ars_nil {l : List Ar} (h : l.map Ar.sh = []) : l = [] := by
 cases l with
 | nil => rfl
 | cons a l' => simp at h
end Go.Bm
