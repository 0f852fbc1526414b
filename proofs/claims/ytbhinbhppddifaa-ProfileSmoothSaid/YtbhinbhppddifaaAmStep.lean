/- The abstract machine: each primitive step is sound. -/
import Derived.Test.YtbhinbhppddifaaAmMem
namespace Go.Am
open Go.RowKit

/-- a value handed over: it names no memory of the call's own -/
def PTV (im : Nat → Prop) (w : World) : TV → Value → Prop
  | .v true cs, x => ∃ ys : Array Value, x = .agg ys ∧ CL (CP im w) cs ys.toList
  | .v false cs, x => ∃ a, cs = [a] ∧ CP im w a x
  | _, _ => False

def PTP (im : Nat → Prop) (w : World) : List (Bool × List AC) → List Value → Prop
  | [], [] => True
  | (g, cs) :: l, x :: xs => PTV im w (.v g cs) x ∧ PTP im w l xs
  | _, _ => False

/-- a call's result -/
def PRes (im : Nat → Prop) (w : World) : TV → Value → Prop
  | .tup ps, x => ∃ ys : Array Value, x = .tuple ys ∧ PTP im w ps ys.toList
  | v, x => PTV im w v x

/-- what a call gives, whatever the world -/
def PCall (P : Program) (f : FuncId) (args : List TV) (v : TV) : Prop :=
  ∀ (w : World) (im : Nat → Prop) (xs : List Value), xs.length = args.length → (∀ (i : Nat) (a : TV) (x : Value), args[i]? = some a → xs[i]? = some x → PTV im w a x) → (∀ b, im b → b < w.heap.size) →
    Calls P f xs.toArray w fun e w' => ∃ (x : Value) (im' : Nat → Prop), e = .returned x ∧ Below w.heap.size w w' ∧ (∀ b, im b → im' b) ∧ (∀ b, im' b → im b ∨ (w.heap.size ≤ b ∧ b < w'.heap.size)) ∧ PRes im' w' v x

def Callable (P : Program) (f : FuncId) : Prop := ∃ fn, P.funcs[f]? = some fn ∧ (fn.name == "runtime.NumGoroutine") = false ∧ fn.body.isNone = false

def SpecOK (P : Program) (C : Cfg) : Prop :=
  ∀ (f : FuncId) (g : List TV → Option (Bool × TV)), C.spec f = some g → Callable P f ∧ ∀ (args : List TV) (v : TV), g args = some (true, v) → PCall P f args v

def Prim.wf (boxes : List (Nat × Box)) (rows : List (Nat × Row)) : Prim → Prop
  | .val v => TV.wf boxes rows v
  | .load _ _ key _ => ∃ b, look boxes key = some b
  | .store key _ cs => (∃ b, look boxes key = some b) ∧ ∀ a ∈ cs, AC.wf boxes rows a
  | .new _ cs => ∀ a ∈ cs, AC.wf boxes rows a
  | .rload _ _ id idx _ => ∃ r, look rows id = some r ∧ idx < r.n
  | .rstore id idx _ _ => ∃ r, look rows id = some r ∧ idx < r.n
  | .append _ _ _ s x => AC.wf boxes rows s ∧ AC.wf boxes rows x
  | .call _ args => ∀ v ∈ args, TV.wf boxes rows v
  | _ => True

section
variable {P : Program} {C : Cfg} {ρ : Env} {w w0 : World} {R : Type} {B : Nat} {I0 : Nat → Prop} {tm : List TV} {boxes : List (Nat × Box)} {rows : List (Nat × Row)} {tmps : Array Value}

theorem look_map {α β : Type} (g : α → β) : ∀ (l : List (Nat × α)) (k : Nat), look (l.map fun p => (p.1, g p.2)) k = (look l k).map g
  | [], _ => rfl
  | (j, b) :: l, k => by
    simp only [List.map_cons, look, look_map g l k]
    cases Nat.beq j k <;> rfl

theorem AC.kill_wf {id : Nat} {a : AC} (h : AC.wf boxes rows a) : AC.wf boxes rows (a.kill id) := by
  cases a with
  | own j w n => simp only [AC.kill]; cases Nat.beq j id <;> first | exact h | trivial
  | rptr j i s => simp only [AC.kill]; cases Nat.beq j id <;> first | exact h | trivial
  | _ => exact h
theorem AC.kill_free (id : Nat) (a : AC) : AC.free id (a.kill id) := by
  cases a with
  | own j w n =>
    simp only [AC.kill]
    cases hb : Nat.beq j id
    · exact fun e => by rw [e] at hb; simp at hb
    · trivial
  | rptr j i s =>
    simp only [AC.kill]
    cases hb : Nat.beq j id
    · exact fun e => by rw [e] at hb; simp at hb
    · trivial
  | _ => trivial
theorem AC.kill_CC {id : Nat} {a : AC} {x : Value} (h : CC ρ w a x) : CC ρ w (a.kill id) x := by
  cases a with
  | own j w n => simp only [AC.kill]; cases Nat.beq j id <;> first | exact h | exact h.one
  | rptr j i s => simp only [AC.kill]; cases Nat.beq j id <;> first | exact h | exact h.one
  | _ => exact h
theorem CL.kill {id : Nat} : ∀ {l : List AC} {xs : List Value}, CL (CC ρ w) l xs → CL (CC ρ w) (l.map (AC.kill id)) xs
  | [], [], _ => trivial
  | _ :: _, _ :: _, h => ⟨AC.kill_CC h.1, CL.kill h.2⟩
  | [], _ :: _, h => h.elim
  | _ :: _, [], h => h.elim
theorem TV.kill_TVR {id : Nat} {v : TV} {x : Value} (h : TVR ρ w v x) : TVR ρ w (v.kill id) x := by
  cases v with
  | dead => trivial
  | tup ps => trivial
  | v g cs =>
    cases g
    · obtain ⟨a, rfl, ha⟩ := h; exact ⟨_, rfl, AC.kill_CC ha⟩
    · obtain ⟨ys, rfl, hy⟩ := h; exact ⟨ys, rfl, hy.kill⟩
theorem TV.kill_wf {id : Nat} {v : TV} (h : TV.wf boxes rows v) : TV.wf boxes rows (v.kill id) := by
  cases v with
  | v g cs =>
    intro a ha
    simp only [List.mem_map] at ha
    obtain ⟨b, hb, rfl⟩ := ha
    exact AC.kill_wf (h b hb)
  | _ => trivial
theorem TV.kill_free (id : Nat) (v : TV) : TV.free id (v.kill id) := by
  cases v with
  | v g cs =>
    intro a ha
    simp only [List.mem_map] at ha
    obtain ⟨b, hb, rfl⟩ := ha
    exact AC.kill_free id b
  | _ => trivial

theorem RelE.kill (h : RelE B w0 I0 tm boxes rows ρ tmps w) (id : Nat) :
    RelE B w0 I0 (tm.map (TV.kill id)) (boxes.map fun p => (p.1, p.2.kill id)) rows ρ tmps w := by
  have hlk : ∀ k, look (boxes.map fun p => (p.1, p.2.kill id)) k = (look boxes k).map (Box.kill id) := fun k => look_map (Box.kill id) boxes k
  have hlk' : ∀ (k : Nat) (b : Box), look (boxes.map fun p => (p.1, p.2.kill id)) k = some b → ∃ b', look boxes k = some b' ∧ b = b'.kill id := by
    intro k b hk
    rw [hlk] at hk
    cases hl : look boxes k with
    | none => rw [hl] at hk; simp at hk
    | some b' => rw [hl] at hk; simp at hk; exact ⟨b', rfl, hk.symm⟩
  have hwf : ∀ a, AC.wf boxes rows a → AC.wf (boxes.map fun p => (p.1, p.2.kill id)) rows a := fun a => AC.wf_mono (fun k b hk => ⟨b.kill id, by rw [hlk, hk]; rfl⟩) (fun k r hk => ⟨r, hk, rfl, rfl⟩)
  refine ⟨by simpa using h.tl, ?_, ?_, ?_, ?_, ?_, h.ro, h.ri, ?_, ?_, h.fr, h.sz, h.i0, h.i1⟩
  · intro i v hi
    simp only [List.getElem?_map, Option.map_eq_some_iff] at hi
    obtain ⟨u, hu, rfl⟩ := hi
    exact TV.kill_TVR (h.tv i u hu)
  · intro v hv
    simp only [List.mem_map] at hv
    obtain ⟨u, hu, rfl⟩ := hv
    exact TV.wf_mono hwf (TV.kill_wf (h.wt u hu))
  · intro k b hk a ha
    obtain ⟨b', hb', rfl⟩ := hlk' k b hk
    simp only [Box.kill, List.mem_map] at ha
    obtain ⟨c, hc, rfl⟩ := ha
    exact hwf _ (AC.kill_wf (h.wb k b' hb' c hc))
  · intro k b hk
    obtain ⟨b', hb', rfl⟩ := hlk' k b hk
    obtain ⟨arr, h1, h2, h3⟩ := h.bx k b' hb'
    exact ⟨arr, h1, h2.kill, h3⟩
  · intro k k' b b' hk hk'
    obtain ⟨_, p1, _⟩ := hlk' k b hk
    obtain ⟨_, p2, _⟩ := hlk' k' b' hk'
    exact h.bi k k' _ _ p1 p2
  · intro k b id' r hk hr
    obtain ⟨_, p1, _⟩ := hlk' k b hk
    exact h.br k _ id' r p1 hr
  · intro b hb
    obtain ⟨q1, q2, q3⟩ := h.ib b hb
    refine ⟨q1, fun k bo hk => ?_, q3⟩
    obtain ⟨_, p1, _⟩ := hlk' k bo hk
    exact q2 k _ p1

/-- the cells of many elements, one behind the other -/
theorem rows_read {im : Nat → Prop} {wd b o : Nat} {f : Nat → List AC} : ∀ n, (∀ i, i < n → (f i).length = wd ∧ CPs im w (f i) b (o + i * wd)) →
    ∃ ys, RowC im w n wd f ys ∧ ReadAt w b o ys
  | 0, _ => ⟨[], ⟨by simp, fun i hi => by omega⟩, fun j y h => by simp at h⟩
  | n + 1, h => by
    obtain ⟨ys, ⟨h1, h2⟩, h3⟩ := rows_read n fun i hi => h i (by omega)
    obtain ⟨h4, h5⟩ := h n (by omega)
    obtain ⟨zs, h6, h7⟩ := CPs_read _ _ _ h5
    have hzl : zs.length = wd := by rw [← h6.length]; exact h4
    refine ⟨ys ++ zs, ⟨by rw [List.length_append, h1, hzl, Nat.add_mul, Nat.one_mul], fun i hi => ?_⟩, fun j y hj => ?_⟩
    · by_cases hin : i < n
      · have hle : i * wd + wd ≤ n * wd := by
          calc i * wd + wd = (i + 1) * wd := by rw [Nat.add_mul, Nat.one_mul]
            _ ≤ n * wd := Nat.mul_le_mul_right _ hin
        have : cut (ys ++ zs) (i * wd) wd = cut ys (i * wd) wd := by
          simp only [cut]
          rw [List.drop_append_of_le_length (by omega), List.take_append_of_le_length (by rw [List.length_drop]; omega)]
        rw [this]; exact h2 i hin
      · have : i = n := by omega
        subst this
        have : cut (ys ++ zs) (i * wd) wd = zs := by
          simp only [cut]
          rw [← h1, List.drop_left, ← hzl, List.take_length]
        rw [this]; exact h6
    · rw [List.getElem?_append] at hj
      split at hj
      · exact h3 j y hj
      · rename_i hge
        have := h7 (j - ys.length) y hj
        rw [h1] at this hge
        rwa [show o + n * wd + (j - n * wd) = o + j from by omega] at this

theorem PTV_of_TVR {im : Nat → Prop} {v v' : TV} {x : Value} (hr : v.res rows = some v') (hcp : ∀ (a a' : AC) (x : Value), a.res rows = some a' → CC ρ w a x → AC.wf boxes rows a → CP im w a' x) (hw : TV.wf boxes rows v) (h : TVR ρ w v x) : PTV im w v' x := by
  have hl : ∀ (cs cs' : List AC) (xs : List Value), resL rows cs = some cs' → (∀ a ∈ cs, AC.wf boxes rows a) → CL (CC ρ w) cs xs → CL (CP im w) cs' xs := by
    intro cs
    induction cs with
    | nil => intro cs' xs h1 _ h2; simp [resL] at h1; subst h1; cases xs <;> first | exact h2 | exact h2.elim
    | cons a cs ih =>
      intro cs' xs h1 hwf h2
      cases xs with
      | nil => exact h2.elim
      | cons y xs =>
        simp only [resL] at h1
        split at h1
        · rename_i a' ha'
          split at h1
          · rename_i l' hl'
            simp at h1; subst h1
            exact ⟨hcp a a' y ha' h2.1 (hwf a (by simp)), ih _ _ hl' (fun b hb => hwf b (by simp [hb])) h2.2⟩
          · simp at h1
        · simp at h1
  cases v with
  | dead => simp [TV.res] at hr
  | tup ps => simp [TV.res] at hr
  | v g cs =>
    simp only [TV.res] at hr
    split at hr
    · rename_i l hl'
      simp at hr; subst hr
      cases g
      · obtain ⟨a, rfl, ha⟩ := h
        simp only [resL] at hl'
        split at hl'
        · rename_i a' ha'
          simp at hl'; subst hl'
          exact ⟨a', rfl, hcp a a' x ha' ha (hw a (by simp))⟩
        · simp at hl'
      · obtain ⟨ys, rfl, hy⟩ := h
        exact ⟨ys, rfl, hl _ _ _ hl' hw hy⟩
    · simp at hr

theorem resArgs_get : ∀ {l l' : List TV}, resArgs rows l = some l' → l'.length = l.length ∧ ∀ (i : Nat) (a' : TV), l'[i]? = some a' → ∃ a, l[i]? = some a ∧ a.res rows = some a'
  | [], l', h => by simp [resArgs] at h; subst h; exact ⟨rfl, fun i a h => by simp at h⟩
  | a :: l, l', h => by
    simp only [resArgs] at h
    split at h
    · rename_i a' ha'
      split at h
      · rename_i l'' hl''
        simp at h; subst h
        obtain ⟨h1, h2⟩ := resArgs_get hl''
        refine ⟨by simp [h1], fun i b hb => ?_⟩
        cases i with
        | zero => simp at hb; subst hb; exact ⟨a, rfl, ha'⟩
        | succ i => simpa using h2 i b (by simpa using hb)
      · simp at h
    · simp at h

theorem CP_flat {im im' : Nat → Prop} {w w' : World} {a : AC} {x : Value} (hf : a.flat = true) (h : CP im w a x) : CP im' w' a x := by
  cases a <;> simp only [CP, AC.flat] at * <;> first | exact h | (simp at hf)

theorem CL_flat {im im' : Nat → Prop} {w w' : World} {l : List AC} {xs : List Value} (hf : allB AC.flat l = true) (h : CL (CP im w) l xs) : CL (CP im' w') l xs :=
  h.mono fun a ha _ hx => CP_flat (allB_iff.1 hf a ha) hx

theorem PTV_flat {im im' : Nat → Prop} {w w' : World} {v : TV} {x : Value} (hf : v.flat = true) (h : PTV im w v x) : PTV im' w' v x := by
  cases v with
  | dead => exact h.elim
  | tup => exact h.elim
  | v g cs =>
    cases g
    · obtain ⟨a, rfl, ha⟩ := h
      exact ⟨a, rfl, CP_flat (allB_iff.1 hf a (by simp)) ha⟩
    · obtain ⟨ys, rfl, hy⟩ := h
      exact ⟨ys, rfl, CL_flat hf hy⟩

theorem PRes_flat {im im' : Nat → Prop} {w w' : World} {v : TV} {x : Value} (hf : v.flat = true) (h : PRes im w v x) : PRes im' w' v x := by
  cases v with
  | dead => exact h.elim
  | v g cs => exact PTV_flat (v := .v g cs) hf h
  | tup ps =>
    obtain ⟨ys, rfl, hy⟩ := h
    refine ⟨ys, rfl, ?_⟩
    generalize ys.toList = l at hy
    induction ps generalizing l with
    | nil => cases l <;> first | exact hy | exact hy.elim
    | cons p ps ih =>
      cases l with
      | nil => exact hy.elim
      | cons y l =>
        obtain ⟨g, cs⟩ := p
        simp only [TV.flat, allB] at hf
        cases hb : allB AC.flat cs
        · rw [hb] at hf; simp at hf
        · rw [hb] at hf
          exact ⟨PTV_flat (v := .v g cs) hb hy.1, ih hf l hy.2⟩

theorem TVR_of_PTV {v : TV} {x : Value} (h : PTV ρ.im w v x) : TVR ρ w v x := by
  cases v with
  | dead => trivial
  | tup => exact h.elim
  | v g cs =>
    cases g
    · obtain ⟨a, rfl, ha⟩ := h; exact ⟨a, rfl, CC_of_CP ha⟩
    · obtain ⟨ys, rfl, hy⟩ := h; exact ⟨ys, rfl, hy.mono fun _ _ _ hh => CC_of_CP hh⟩

theorem TVR_of_PRes {v : TV} {x : Value} (h : PRes ρ.im w v x) : TVR ρ w v x := by
  cases v with
  | dead => trivial
  | v g cs => exact TVR_of_PTV (v := .v g cs) h
  | tup ps =>
    obtain ⟨ys, rfl, hy⟩ := h
    refine ⟨ys, rfl, ?_⟩
    generalize ys.toList = l at hy
    induction ps generalizing l with
    | nil => cases l <;> first | exact hy | exact hy.elim
    | cons p ps ih =>
      cases l with
      | nil => exact hy.elim
      | cons y l =>
        obtain ⟨g, cs⟩ := p
        refine ⟨?_, ih l hy.2⟩
        have := TVR_of_PTV (v := .v g cs) hy.1
        cases g <;> exact this

theorem CP_wf {im : Nat → Prop} {a : AC} {x : Value} (h : CP im w a x) : AC.wf boxes rows a := by
  cases a <;> first | trivial | (simp [CP] at h)
theorem CL_wf {im : Nat → Prop} {l : List AC} {xs : List Value} (h : CL (CP im w) l xs) : ∀ a ∈ l, AC.wf boxes rows a := by
  induction l generalizing xs with
  | nil => intro a ha; simp at ha
  | cons b l ih =>
    cases xs with
    | nil => exact h.elim
    | cons y xs =>
      intro a ha
      simp only [List.mem_cons] at ha
      rcases ha with rfl | ha
      · exact CP_wf h.1
      · exact ih h.2 a ha
theorem PTV_wf {im : Nat → Prop} {v : TV} {x : Value} (h : PTV im w v x) : TV.wf boxes rows v := by
  cases v with
  | dead => trivial
  | tup => exact h.elim
  | v g cs =>
    cases g
    · obtain ⟨a, rfl, ha⟩ := h
      intro b hb; simp at hb; subst hb; exact CP_wf ha
    · obtain ⟨ys, rfl, hy⟩ := h; exact CL_wf hy
theorem PRes_wf {im : Nat → Prop} {v : TV} {x : Value} (h : PRes im w v x) : TV.wf boxes rows v := by
  cases v with
  | dead => trivial
  | v g cs => exact PTV_wf (v := .v g cs) h
  | tup ps =>
    obtain ⟨ys, rfl, hy⟩ := h
    generalize ys.toList = l at hy
    induction ps generalizing l with
    | nil => intro p hp; simp at hp
    | cons q ps ih =>
      cases l with
      | nil => exact hy.elim
      | cons y l =>
        obtain ⟨g, cs⟩ := q
        intro p hp
        simp only [List.mem_cons] at hp
        rcases hp with rfl | hp
        · exact PTV_wf (v := .v g cs) hy.1
        · exact ih l hy.2 p hp
end
end Go.Am
