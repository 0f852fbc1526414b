/- The abstract machine: regions are sound, in whatever order they run. -/
import Derived.Test.YtbhinbhppddifaaAmSwap
import Derived.Orders
namespace Go.Am
open Go.RowKit

structure WFst (s : St) : Prop where
  t : ∀ v ∈ s.tmps, TV.wf s.boxes s.rows v
  b : ∀ (k : Nat) (b : Box), look s.boxes k = some b → ∀ a ∈ b.cells, AC.wf s.boxes s.rows a

section
variable {P : Program} {C : Cfg} {w w0 : World} {R : Type} {B : Nat} {I0 : Nat → Prop}

theorem plainB_wf {boxes : List (Nat × Box)} {rows : List (Nat × Row)} {v : TV} (h : v.plainB = true) : TV.wf boxes rows v := by
  cases v with
  | dead => trivial
  | v g cs => exact plain_wf h
  | tup ps => exact fun p hp => plain_wf (allB_iff.1 h p hp)

theorem core_wf {ops : List Oper} {o : Oper} {tm : List TV} {bx bx' : List (Nat × Box)} {rows : List (Nat × Row)} {p : Option Prim} {v : TV} (hw : WFst ⟨tm, bx, rows⟩) (h : coreS P C ops o tm bx rows = some (p, v, bx')) :
    WFst ⟨tm, bx', rows⟩ ∧ TV.wf bx' rows v ∧ ∀ q, p = some q → Prim.wf bx rows q := by
  unfold coreS at h
  split at h
  · cases hp : opK P C (evOf tm) o.op some with
    | none => rw [hp] at h; simp at h
    | some q =>
      rw [hp] at h
      simp only [Option.bind_some] at h
      have hq := opK_wf (boxes := bx) (rows := rows) (fun x => evOf_wf hw.t x) hp
      cases hm : memS (C := C) o.dst q bx rows with
      | none => rw [hm] at h; simp at h
      | some z =>
        rw [hm] at h
        simp at h
        obtain ⟨rfl, rfl, rfl⟩ := h
        have hres : ∀ {bx2 : List (Nat × Box)}, (∀ a, AC.wf bx rows a → AC.wf bx2 rows a) → (∀ (k : Nat) (b : Box), look bx2 k = some b → ∀ a ∈ b.cells, AC.wf bx rows a) → WFst ⟨tm, bx2, rows⟩ :=
          fun ha hb => ⟨fun v hv => TV.wf_mono ha (hw.t v hv), fun k b hk a hm => ha a (hb k b hk a hm)⟩
        refine ⟨?_, ?_, fun q' e => by simp at e; subst e; exact hq⟩
        all_goals
          cases q <;> simp only [memS] at hm <;> try (simp at hm; done)
        · simp at hm; subst hm; exact hw
        · repeat' split at hm
          all_goals first | (simp at hm; done) | (simp at hm; subst hm; exact hw)
        · rename_i key off cs
          split at hm
          · rename_i b hb
            split at hm
            · simp at hm; subst hm
              refine hres (fun a => AC.wf_mono (fun k bo hk' => by
                by_cases hkd : k = key
                · subst hkd; exact ⟨_, look_upd_same _ _ _ _ hb⟩
                · exact ⟨bo, by rw [look_upd_other _ _ _ _ hkd]; exact hk'⟩) (fun k r hk => ⟨r, hk, rfl, rfl⟩)) ?_
              intro k bo hk a ha
              by_cases hkd : k = key
              · subst hkd
                rw [look_upd_same _ _ _ _ hb] at hk; simp at hk; subst hk
                rcases mem_splice _ _ _ ha with ha | ha
                · exact hw.b k b hb a ha
                · exact hq.2 a ha
              · rw [look_upd_other _ _ _ _ hkd] at hk; exact hw.b k bo hk a ha
            · simp at hm
          · simp at hm
        · rename_i ty cs
          split at hm
          · rename_i d hd
            split at hm
            · simp at hm
            · rename_i hn
              simp at hm; subst hm
              refine hres (fun a => AC.wf_mono (fun k bo hk' => ⟨bo, by rw [look_ins_other _ _ _ _ (by rintro rfl; rw [hn] at hk'; simp at hk')]; exact hk'⟩) (fun k r hk => ⟨r, hk, rfl, rfl⟩)) ?_
              intro k bo hk a ha
              by_cases hkd : k = d
              · subst hkd
                rw [look_ins_same _ _ _ hn] at hk; simp at hk; subst hk
                exact hq a ha
              · rw [look_ins_other _ _ _ _ hkd] at hk; exact hw.b k bo hk a ha
          · simp at hm
        · simp at hm; subst hm; exact hw
        · repeat' split at hm
          all_goals first | (simp at hm; done) | (simp at hm; subst hm; exact hw)
        · simp at hm; subst hm; exact hq
        · split at hm
          · rename_i b hb
            split at hm
            · rename_i v hv
              simp at hm; subst hm
              exact valueAt_wf hv (hw.b _ b hb)
            · simp at hm
          · simp at hm
        · repeat' split at hm
          all_goals first | (simp at hm; done) | (simp at hm; subst hm; trivial)
        · rename_i ty cs
          split at hm
          · rename_i d hd
            split at hm
            · simp at hm
            · rename_i hn
              simp at hm; subst hm
              exact wf_c ⟨_, look_ins_same _ _ _ hn⟩
          · simp at hm
        · simp at hm; subst hm
          exact wf_c trivial
        · split at hm
          · split at hm
            · split at hm
              · rename_i ok v _
                split at hm
                · rename_i hc
                  simp at hm; subst hm
                  simp only [Bool.and_eq_true] at hc
                  exact plainB_wf hc.1.2
                · simp at hm
              · simp at hm
            · simp at hm
          · simp at hm
  · simp at h
    obtain ⟨rfl, rfl, rfl⟩ := h
    exact ⟨hw, fun p hp => by simp at hp, fun q e => by simp at e⟩
  · simp at h

theorem putT_wf {tm : List TV} {bx : List (Nat × Box)} {rows : List (Nat × Row)} {d : Option Tmp} {v : TV} (hw : WFst ⟨tm, bx, rows⟩) (hv : TV.wf bx rows v) : WFst ⟨putT tm d v, bx, rows⟩ := by
  cases d with
  | none => exact hw
  | some t =>
    refine ⟨fun u hu => ?_, hw.b⟩
    simp only [putT, setL_eq] at hu
    rcases List.mem_or_eq_of_mem_set hu with hu | rfl
    · exact hw.t u hu
    · exact hv

theorem stepS_wf {ops : List Oper} {o : Oper} {s s' : St} {p : Option Prim} (hw : WFst s) (h : stepS (P := P) (C := C) ops o s = some (p, s')) : WFst s' := by
  obtain ⟨tm, bx, rows⟩ := s
  rw [stepS_core] at h
  cases hc : coreS P C ops o tm bx rows with
  | none => rw [hc] at h; simp at h
  | some q =>
    obtain ⟨p', v, bx'⟩ := q
    rw [hc] at h
    simp at h
    obtain ⟨rfl, rfl⟩ := h
    obtain ⟨h1, h2, _⟩ := core_wf hw hc
    exact putT_wf h1 h2

theorem stepS_swap {ops : Array Oper} {x y : Oper} {s s1 s2 : St} {px py : Option Prim} (hw : WFst s) (hy : stepS (P := P) (C := C) ops.toList y s = some (py, s1)) (hx : stepS (P := P) (C := C) ops.toList x s1 = some (px, s2))
    (hap : Oper.apart ops y x = true) (hm : Prim.meet py px = false) : ∃ s1', stepS (P := P) (C := C) ops.toList x s = some (px, s1') ∧ stepS (P := P) (C := C) ops.toList y s1' = some (py, s2) := by
  obtain ⟨a1, a2, a3⟩ := Oper.apart_spec hap
  obtain ⟨tm, bx, rows⟩ := s
  rw [stepS_core] at hy
  cases hcy : coreS P C ops.toList y tm bx rows with
  | none => rw [hcy] at hy; simp at hy
  | some qy =>
    obtain ⟨py', vy, bx1⟩ := qy
    rw [hcy] at hy
    simp at hy
    obtain ⟨rfl, rfl⟩ := hy
    rw [stepS_core] at hx
    rw [core_congr (fun t ht => a1 t ht)] at hx
    cases hcx : coreS P C ops.toList x tm bx1 rows with
    | none => rw [hcx] at hx; simp at hx
    | some qx =>
      obtain ⟨px', vx, bx2⟩ := qx
      rw [hcx] at hx
      simp at hx
      obtain ⟨rfl, rfl⟩ := hx
      have key : ∃ bx1', coreS P C ops.toList x tm bx rows = some (px', vx, bx1') ∧ coreS P C ops.toList y tm bx1' rows = some (py', vy, bx2) := by
        unfold coreS at hcy hcx ⊢
        split at hcy
        · rename_i hwy
          cases hpy : opK P C (evOf tm) y.op some with
          | none => rw [hpy] at hcy; simp at hcy
          | some qy =>
            rw [hpy] at hcy
            simp only [Option.bind_some] at hcy
            cases hmy : memS (C := C) y.dst qy bx rows with
            | none => rw [hmy] at hcy; simp at hcy
            | some zy =>
              rw [hmy] at hcy
              simp at hcy
              obtain ⟨rfl, rfl, rfl⟩ := hcy
              split at hcx
              · rename_i hwx
                cases hpx : opK P C (evOf tm) x.op some with
                | none => rw [hpx] at hcx; simp at hcx
                | some qx =>
                  rw [hpx] at hcx
                  simp only [Option.bind_some] at hcx
                  cases hmx : memS (C := C) x.dst qx zy.2 rows with
                  | none => rw [hmx] at hcx; simp at hcx
                  | some zx =>
                    rw [hmx] at hcx
                    simp at hcx
                    obtain ⟨rfl, rfl, rfl⟩ := hcx
                    obtain ⟨bx1', m1, m2⟩ := memS_swap hmy hmx hm a2 (opK_wf (fun x => evOf_wf hw.t x) hpx)
                    exact ⟨bx1', by simp [m1], by simp [m2]⟩
              · rename_i hwx
                simp at hcx
                obtain ⟨rfl, rfl, rfl⟩ := hcx
                exact ⟨bx, rfl, by simp [hmy]⟩
              · simp at hcx
        · rename_i hwy
          simp at hcy
          obtain ⟨rfl, rfl, rfl⟩ := hcy
          exact ⟨bx2, hcx, rfl⟩
        · simp at hcy
      obtain ⟨bx1', k1, k2⟩ := key
      refine ⟨⟨putT tm x.dst vx, bx1', rows⟩, by rw [stepS_core, k1]; rfl, ?_⟩
      rw [stepS_core, core_congr (fun t ht => a3 t ht), k2]
      simp only [Option.bind_some]
      rw [putT_comm vy vx a2]

theorem runC_pull {ops : Array Oper} {x : Nat × Oper × Option Prim} {post : List (Nat × Oper × Option Prim)} {sf : St} : ∀ (pre : List (Nat × Oper × Option Prim)) (s : St), WFst s → runC P C ops.toList (pre ++ x :: post) s sf →
    (∀ y ∈ pre, Oper.apart ops y.2.1 x.2.1 = true ∧ Prim.meet y.2.2 x.2.2 = false) → ∃ s1, stepS (P := P) (C := C) ops.toList x.2.1 s = some (x.2.2, s1) ∧ runC P C ops.toList (pre ++ post) s1 sf
  | [], s, hw, h, _ => by
    obtain ⟨i, o, p⟩ := x
    exact h
  | (j, oy, py) :: pre, s, hw, h, hy => by
    obtain ⟨s', h1, h2⟩ := h
    obtain ⟨s2, h3, h4⟩ := runC_pull pre s' (stepS_wf hw h1) h2 fun y hym => hy y (by simp [hym])
    obtain ⟨q1, q2⟩ := hy (j, oy, py) (by simp)
    obtain ⟨s1, h5, h6⟩ := stepS_swap hw h1 h3 q1 q2
    exact ⟨s1, h5, s2, h6, h4⟩
end
end Go.Am
