/- The abstract machine: 'funK' is sound: what it gives is what the call gives. -/
import Derived.Test.YtbhinbhppddifaaAmAny
namespace Go.Am
open Go.RowKit

section
variable {P : Program} {C : Cfg} {w w0 : World} {R : Type} {B : Nat} {I0 : Nat → Prop}

theorem drawOk_spec {ops : Array Oper} : ∀ (ps earlier : List (Nat × Oper × Option Prim)) (i : Nat), ps.map (·.1) = List.range' i ps.length → drawOk ops i earlier (ps.map (·.2)) = true →
    ∀ pre x post, ps = pre ++ x :: post → Prim.simple x.2.2 = true ∧ (∀ e ∈ x.2.1.after, Region.binds .any e = true → e.on < x.1) ∧
      ∀ y ∈ earlier ++ pre, reach ops.toList 2 x.1 y.1 = true ∨ (Oper.apart ops y.2.1 x.2.1 = true ∧ Prim.meet y.2.2 x.2.2 = false)
  | [], earlier, i, _, _, pre, x, post, h => by simp at h
  | (j, o, p) :: ps, earlier, i, hidx, hok, pre, x, post, h => by
    simp only [List.map_cons, List.length_cons, List.range'_succ, List.cons.injEq] at hidx
    obtain ⟨rfl, hidx⟩ := hidx
    simp only [List.map_cons, drawOk] at hok
    cases hc : (Prim.simple p && o.after.toList.all (fun e => !(Region.binds .any e) || Nat.blt e.on j) && allB (fun y : Nat × Oper × Option Prim => reach ops.toList 2 j y.1 || (Oper.apart ops y.2.1 o && !(Prim.meet y.2.2 p))) earlier)
    · rw [hc] at hok; simp at hok
    · rw [hc] at hok
      simp only [cond_true] at hok
      simp only [Bool.and_eq_true] at hc
      obtain ⟨⟨c1, c2⟩, c3⟩ := hc
      cases pre with
      | nil =>
        simp at h
        obtain ⟨rfl, rfl⟩ := h
        refine ⟨c1, fun e he hb => ?_, fun y hy => ?_⟩
        · have := List.all_eq_true.1 c2 e (by simpa using he)
          rw [hb] at this
          simpa using this
        · simp at hy
          have := allB_iff.1 c3 y hy
          simpa using this
      | cons q pre =>
        simp at h
        obtain ⟨rfl, rfl⟩ := h
        obtain ⟨h1, h2, h3⟩ := drawOk_spec (pre ++ x :: post) (earlier ++ [(j, o, p)]) (j + 1) hidx hok pre x post rfl
        refine ⟨h1, h2, fun y hy => h3 y ?_⟩
        simpa using hy

theorem drawOk_simple {ops : Array Oper} : ∀ (l : List (Oper × Option Prim)) (earlier : List (Nat × Oper × Option Prim)) (i : Nat), drawOk ops i earlier l = true → ∀ q ∈ l, Prim.simple q.2 = true
  | [], _, _, _, q, hq => by simp at hq
  | (o, p) :: l, earlier, i, h, q, hq => by
    simp only [drawOk] at h
    cases hc : (Prim.simple p && o.after.toList.all (fun e => !(Region.binds .any e) || Nat.blt e.on i) && allB (fun y : Nat × Oper × Option Prim => reach ops.toList 2 i y.1 || (Oper.apart ops y.2.1 o && !(Prim.meet y.2.2 p))) earlier)
    · rw [hc] at h; simp at h
    · rw [hc] at h
      simp only [cond_true] at h
      simp only [Bool.and_eq_true] at hc
      simp only [List.mem_cons] at hq
      rcases hq with rfl | hq
      · exact hc.1.1
      · exact drawOk_simple l _ _ h q hq

theorem Rel.drew {s : St} {tmps : Array Value} (h : Rel B w0 I0 s tmps w) : Rel B w0 I0 s tmps { w with drawn := w.drawn + 1 } := by
  obtain ⟨ρ, h⟩ := h
  have hcc : ∀ (a : AC) (x : Value), CC ρ w a x → CC ρ { w with drawn := w.drawn + 1 } a x := fun a x hx => CC.mono (w := w) (w' := { w with drawn := w.drawn + 1 }) (fun _ h => h) (fun _ _ => rfl) a x (by cases a <;> simp [AC.agree]) hx
  refine ⟨ρ, h.tl, fun i v hi => TVR.mono hcc v _ (h.tv i v hi), h.wt, h.wb, ?_, h.bi, ?_, h.ri, h.br, h.ib, h.fr.drew, h.sz, h.i0, h.i1⟩
  · intro k b hk
    obtain ⟨arr, q1, q2, q3⟩ := h.bx k b hk
    exact ⟨arr, q1, q2.mono fun a _ x hx => hcc a x hx, q3⟩
  · intro id r hr
    obtain ⟨q1, q2, xs, q3, q4⟩ := h.ro id r hr
    exact ⟨q1, q2, xs, ownsRow_keep q3 (fun _ _ => rfl), RowC.mono (w := w) (fun _ h => h) (fun _ _ => rfl) q4⟩

theorem Rel.wf {s : St} {tmps : Array Value} (h : Rel B w0 I0 s tmps w) : WFst s := by
  obtain ⟨ρ, h⟩ := h
  exact ⟨h.wt, h.wb⟩

theorem regK_sound (hspec : SpecOK P C) (hok : ∀ t ∈ C.eqOk, P.stoodInHeld t = false) (hmix : P.follows .mixedOrders = true) {id : Nat} {ops : Array Oper} {draw : Bool} {s : St} {a : Act} (hR : Rel B w0 I0 s a.tmps w) {K : St → Option R} {r : R}
    (h : regK P C ops draw s K = some r) {Q : Exit → Act → World → Prop} (hq : ∀ (s' : St) (a' : Act) (w' : World), K s' = some r → Rel B w0 I0 s' a'.tmps w' → a'.defers = a.defers → Q .normal a' w') :
    (Code.region id ops draw).wp P Q a w := by
  cases draw
  · exact wp_region_list (seqK_sound hspec hok _ s a w hR h hq)
  · simp only [regK, cond_true] at h
    refine wp_region_any hmix ?_
    rcases drawK_runC ops.toList 0 s _ r h with ⟨ps, sf, q1, q2, q3, q4⟩ | ⟨acc, sf, q1, q, q2, q3⟩
    · cases hd : drawOk ops 0 [] (ps.map (·.2)) <;> rw [hd] at q4
      · simp at q4
      · simp only [cond_true] at q4
        have hlen : ps.length = ops.size := by have := congrArg List.length q1; simpa using this
        have hidx : ps.map (·.1) = List.range' 0 ps.length := by rw [q2]; simp [hlen]
        have hsp := drawOk_spec ps [] 0 hidx hd
        have hpos : ∀ (i : Nat) (x : Nat × Oper × Option Prim), ps[i]? = some x → x.1 = i ∧ ops[i]? = some x.2.1 := by
          intro i x hx
          have h1 : (ps.map (·.1))[i]? = some x.1 := by simp [hx]
          have h2 : (ps.map (·.2.1))[i]? = some x.2.1 := by simp [hx]
          rw [hidx, List.getElem?_range'] at h1
          rw [q1] at h2
          · simp at h1; exact ⟨by omega, by simpa using h2⟩
          · exact (List.getElem?_eq_some_iff.1 hx).1
        refine any_sound hspec hok (sf := sf) (d0 := a.defers) (fun a' w' hR' hd' => hq sf a' w' q4 hR' hd') ops.size _ ps s a _ hlen ?_ q3 hR.wf hR.drew rfl
        refine ⟨by simp, fun x hx => ?_, fun i hi => ?_, ?_, ?_, ?_⟩
        · obtain ⟨pre, post, hs⟩ := List.append_of_mem hx
          obtain ⟨c1, c2, _⟩ := hsp pre x post hs
          obtain ⟨i, hi⟩ := List.getElem?_of_mem hx
          obtain ⟨p1, p2⟩ := hpos i x hi
          exact ⟨by rw [p1]; exact p2, c1, c2⟩
        · constructor
          · intro _
            have hlt : i < ps.length := by omega
            exact ⟨ps[i], List.getElem_mem hlt, (hpos i ps[i] (List.getElem?_eq_getElem hlt)).1⟩
          · intro _
            simp [Array.getD, hi]
        · rw [hidx]; exact List.pairwise_lt_range' 
        · intro j o hj hl
          have hlt : j < ops.size := (Array.getElem?_eq_some_iff.1 hj).1
          simp [Array.getD, hlt] at hl
        · intro pre x post hs y hy
          exact (hsp pre x post hs).2.2 y (by simpa using hy)
    · cases hd : drawOk ops 0 [] acc <;> rw [hd] at q1
      · simp at q1
      · have := drawOk_simple acc [] 0 hd q q2
        rw [q3] at this; simp at this

def toEx : Ex → Exit
  | .normal => .normal
  | .exit id => .exit id
  | .ret => .ret

def Post (B : Nat) (w0 : World) (I0 : Nat → Prop) (K : Ex → St → Option R) (r : R) (d : List Deferred) : Exit → Act → World → Prop :=
  fun e a w => ∃ ae s, toEx ae = e ∧ K ae s = some r ∧ Rel B w0 I0 s a.tmps w ∧ a.defers = d

theorem keepT_get (keep : List Nat) : ∀ (l : List TV) (i j : Nat) (v : TV), (keepT keep i l)[j]? = some v → v = .dead ∨ l[j]? = some v
  | [], _, _, _, h => by simp [keepT] at h
  | u :: l, i, 0, v, h => by
    simp only [keepT, List.getElem?_cons_zero, Option.some.injEq] at h
    cases hk : keep.elem i
    · rw [hk] at h; exact .inl h.symm
    · rw [hk] at h; exact .inr (by simpa using h)
  | u :: l, i, j + 1, v, h => by
    simp only [keepT, List.getElem?_cons_succ] at h ⊢
    exact keepT_get keep l (i + 1) j v h

theorem keepT_length (keep : List Nat) : ∀ (l : List TV) (i : Nat), (keepT keep i l).length = l.length
  | [], _ => rfl
  | _ :: l, i => by simp [keepT, keepT_length keep l (i + 1)]

theorem look_filter {α : Type} (keys : List Nat) : ∀ (l : List (Nat × α)) (k : Nat) (b : α), look (l.filter fun p => keys.elem p.1) k = some b → look l k = some b
  | [], k, b, h => by simp [look] at h
  | (j, c) :: l, k, b, h => by
    simp only [List.filter_cons] at h
    split at h
    · simp only [look] at h ⊢
      cases hb : Nat.beq j k <;> rw [hb] at h
      · exact look_filter keys l k b h
      · exact h
    · rename_i hk
      have := look_filter keys l k b h
      simp only [look]
      cases hb : Nat.beq j k
      · exact this
      · exfalso
        have e := Nat.eq_of_beq_eq_true hb
        subst e
        have hin : ∀ (l : List (Nat × α)), (∀ p ∈ l, keys.elem p.1 = true) → ∀ b, look l j = some b → keys.elem j = true := by
          intro l
          induction l with
          | nil => intro _ b h; simp [look] at h
          | cons p l ih =>
            intro hp b h
            simp only [look] at h
            cases hb : Nat.beq p.1 j <;> rw [hb] at h
            · exact ih (fun q hq => hp q (by simp [hq])) b h
            · have := Nat.eq_of_beq_eq_true hb
              rw [← this]; exact hp p (by simp)
        exact hk (hin _ (fun p hp => by simpa using (List.mem_filter.1 hp).2) b h)

theorem look_filter' {α : Type} (keys : List Nat) : ∀ (l : List (Nat × α)) (k : Nat) (b : α), keys.elem k = true → look l k = some b → look (l.filter fun p => keys.elem p.1) k = some b
  | [], k, b, _, h => by simp [look] at h
  | (j, c) :: l, k, b, hk, h => by
    simp only [look] at h
    cases hb : Nat.beq j k <;> rw [hb] at h
    · simp only [List.filter_cons]
      split
      · simp only [look, hb]; exact look_filter' keys l k b hk h
      · exact look_filter' keys l k b hk h
    · have e := Nat.eq_of_beq_eq_true hb
      subst e
      simp only [List.filter_cons, hk, if_true, look, hb]
      exact h

theorem normK_sound {keep keys ids : List Nat} {s : St} {tmps : Array Value} (hR : Rel B w0 I0 s tmps w) {K : St → Option R} {r : R} (h : normK keep keys ids s K = some r) : ∃ s', K s' = some r ∧ Rel B w0 I0 s' tmps w := by
  obtain ⟨tm, boxes, rows⟩ := s
  obtain ⟨ρ, hR⟩ := hR
  simp only [normK, forceL_eq] at h
  cases hc : (allB (TV.inK keys ids) (keepT keep 0 tm) && allB (fun p : Nat × Box => allB (AC.inK keys ids) p.2.cells) (boxes.filter fun p => keys.elem p.1)) <;> rw [hc] at h
  · simp at h
  · simp only [cond_true] at h
    simp only [Bool.and_eq_true] at hc
    refine ⟨_, h, ρ, ?_⟩
    have hb : ∀ (k : Nat) (b : Box), look (boxes.filter fun p => keys.elem p.1) k = some b → look boxes k = some b := fun k b => look_filter keys boxes k b
    have hr : ∀ (k : Nat) (b : Row), look (rows.filter fun p => ids.elem p.1) k = some b → look rows k = some b := fun k b => look_filter ids rows k b
    have hwf : ∀ a, AC.inK keys ids a = true → AC.wf boxes rows a → AC.wf (boxes.filter fun p => keys.elem p.1) (rows.filter fun p => ids.elem p.1) a := by
      intro a hin ha
      cases a with
      | ptr k o => obtain ⟨b, hb'⟩ := ha; exact ⟨b, look_filter' keys boxes k b hin hb'⟩
      | own id w1 n => obtain ⟨q, h1, h2⟩ := ha; exact ⟨q, look_filter' ids rows id q hin h1, h2⟩
      | rptr id i s1 => obtain ⟨q, h1, h2⟩ := ha; exact ⟨q, look_filter' ids rows id q hin h1, h2⟩
      | vptr => exact ha
      | _ => trivial
    refine ⟨by rw [keepT_length]; exact hR.tl, fun i v hi => ?_, fun v hv => ?_, fun k b hk a ha => ?_, fun k b hk => hR.bx k b (hb k b hk), fun k k' b b' hk hk' => hR.bi k k' b b' (hb k b hk) (hb k' b' hk'),
      fun id q hq => hR.ro id q (hr id q hq), fun id id' q q' g hq hq' => hR.ri id id' q q' g (hr id q hq) (hr id' q' hq'), fun k b id q hk hq => hR.br k b id q (hb k b hk) (hr id q hq), fun b hbm => ?_, hR.fr, hR.sz, hR.i0, hR.i1⟩
    · rcases keepT_get keep tm 0 i v hi with rfl | hi
      · trivial
      · exact hR.tv i v hi
    · obtain ⟨i, hi⟩ := List.getElem?_of_mem hv
      have hin := allB_iff.1 hc.1 v hv
      rcases keepT_get keep tm 0 i v hi with rfl | hi
      · trivial
      · have hw := hR.wt v (List.mem_of_getElem? hi)
        cases v with
        | dead => trivial
        | v g cs => exact fun a ha => hwf a (allB_iff.1 hin a ha) (hw a ha)
        | tup ps => exact fun p hp a ha => hwf a (allB_iff.1 (allB_iff.1 hin p hp) a ha) (hw p hp a ha)
    · have hmem : ∃ p ∈ (boxes.filter fun p => keys.elem p.1), p.2 = b := by
        clear hc h
        revert hk
        generalize (boxes.filter fun p => keys.elem p.1) = l
        intro hk
        induction l with
        | nil => simp [look] at hk
        | cons p l ih =>
          simp only [look] at hk
          cases hbb : Nat.beq p.1 k <;> rw [hbb] at hk
          · obtain ⟨q, hq, e⟩ := ih hk; exact ⟨q, by simp [hq], e⟩
          · simp at hk; exact ⟨p, by simp, hk⟩
      obtain ⟨p, hp, rfl⟩ := hmem
      exact hwf a (allB_iff.1 (allB_iff.1 hc.2 p hp) a ha) (hR.wb k p.2 (hb k p.2 hk) a ha)
    · obtain ⟨q1, q2, q3⟩ := hR.ib b hbm
      exact ⟨q1, fun k bo hk => q2 k bo (hb k bo hk), fun id q hq => q3 id q (hr id q hq)⟩

theorem promoteK_sound : ∀ (l : List (Nat × TypeId × Nat)) (s : St) (tmps : Array Value), Rel B w0 I0 s tmps w → ∀ (K : St → Option R) (r : R), promoteK l s K = some r → ∃ s', K s' = some r ∧ Rel B w0 I0 s' tmps w
  | [], s, tmps, hR, K, r, h => ⟨s, h, hR⟩
  | (t, e, wd) :: l, s, tmps, hR, K, r, h => by
    obtain ⟨tm, boxes, rows⟩ := s
    simp only [promoteK] at h
    split at h
    · rename_i hn
      split at h
      · rename_i hrow
        cases hw : Nat.ble 1 wd <;> rw [hw] at h
        · simp at h
        · simp only [cond_true, forceL_eq] at h
          refine promoteK_sound l _ tmps ?_ K r h
          obtain ⟨ρ, hR⟩ := hR
          have hadd := hR.addRow (d := t) hrow (r := ⟨e, wd, 0, fun _ => []⟩) (v' := .slice none 0 0) (xs := []) (w' := w) (Below.refl _ _) (Nat.le_of_ble_eq_true hw) (World.ownsRow_nil w B e wd) ⟨by simp, fun i hi => absurd hi (Nat.not_lt_zero i)⟩ (fun g hg => by simp [Value.ownBlock] at hg)
          refine ⟨_, hadd.learn t ?_ (wf_c ⟨_, look_ins_same _ _ _ hrow, rfl, rfl⟩)⟩
          have hv : tmps.getD t undef = .slice none 0 0 := by
            have htl : t < tm.length := by
              rcases Nat.lt_or_ge t tm.length with hlt | hge
              · exact hlt
              · rw [nth_eq, List.getD, List.getElem?_eq_none hge] at hn; simp at hn
            have hslot : tm[t]? = some (.c .nilSl) := by
              rw [nth_eq, List.getD] at hn
              rw [List.getElem?_eq_getElem htl] at hn ⊢
              simpa using hn
            have := (hR.tv t _ hslot).c
            simpa [CC, CP] using this
          rw [hv]
          exact TVR.c' ⟨by simp only [upN_same], by simp only [upN_same], .inl ⟨rfl, rfl⟩⟩
      · simp at h
    · exact promoteK_sound l _ tmps hR K r h

theorem normO_sound {keep : Option (List Nat)} {keys ids : List Nat} {s : St} {tmps : Array Value} {w : World} {K : St → Option R} {r : R} (hR : Rel B w0 I0 s tmps w) (h : normO keep keys ids s K = some r) :
    ∃ s', K s' = some r ∧ Rel B w0 I0 s' tmps w := by
  cases keep with
  | none => exact ⟨s, h, hR⟩
  | some l => exact normK_sound hR h

theorem loopN_sound {step : St → (Ex → St → Option R) → Option R} {body : Code} {keep out : Option (List Nat)} {keys ids : List Nat} {K : Ex → St → Option R} {r : R} {d : List Deferred}
    (hstep : ∀ (s : St) (a : Act) (w : World) (K' : Ex → St → Option R), Rel B w0 I0 s a.tmps w → a.defers = d → step s K' = some r → body.wp P (Post B w0 I0 K' r d) a w) :
    ∀ (n : Nat) (s : St) (a : Act) (w : World), Rel B w0 I0 s a.tmps w → a.defers = d → loopN step keep out keys ids n s K = some r → Code.rounds P body (Post B w0 I0 K r d) n a w
  | 0, s, a, w, hR, hd, h => by simp [loopN] at h
  | n + 1, s, a, w, hR, hd, h => by
    rw [loopN] at h
    rw [rounds_succ]
    refine wp_mono (hstep s a w _ hR hd h) ?_
    rintro e a' w' ⟨ae, s2, rfl, hK, hR2, hd2⟩
    cases ae with
    | normal =>
      obtain ⟨s3, h3, hR3⟩ := normO_sound hR2 hK
      exact loopN_sound hstep n s3 a' w' hR3 hd2 h3
    | exit id =>
      obtain ⟨s3, h3, hR3⟩ := normO_sound hR2 hK
      exact ⟨.exit id, s3, rfl, h3, hR3, hd2⟩
    | ret =>
      obtain ⟨s3, h3, hR3⟩ := normO_sound hR2 hK
      exact ⟨.ret, s3, rfl, h3, hR3, hd2⟩

theorem isInt_eq {l : List AC} (h : isInt l = true) : l = [.int .i64 (intAt l)] := by
  unfold isInt at h
  split at h
  · rfl
  · cases h
theorem allInt_get {f : Nat → List AC} : ∀ {n : Nat}, allInt f n = true → ∀ i, i < n → f i = [.int .i64 (intAt (f i))]
  | n + 1, h, i, hi => by
    simp only [allInt, Bool.and_eq_true] at h
    by_cases e : i = n
    · subst e; exact isInt_eq h.1
    · exact allInt_get h.2 i (by omega)

theorem canonK_sound : ∀ (l : List Nat) (s : St) (tmps : Array Value) (w : World), Rel B w0 I0 s tmps w → ∀ (K : St → Option R) (r : R), canonK l s K = some r → ∃ s', K s' = some r ∧ Rel B w0 I0 s' tmps w
  | [], s, tmps, w, hR, K, r, h => ⟨s, h, hR⟩
  | id :: l, s, tmps, w, hR, K, r, h => by
    obtain ⟨tm, boxes, rows⟩ := s
    simp only [canonK] at h
    split at h
    · rename_i r0 hr0
      cases ha : allInt r0.f r0.n <;> rw [ha] at h
      · simp at h
      · simp only [cond_true, forceL_eq] at h
        refine canonK_sound l _ tmps w ?_ K r h
        obtain ⟨ρ, hR⟩ := hR
        obtain ⟨q1, q2, xs, q3, q4⟩ := hR.ro id r0 hr0
        have hturn := hR.turnRow (id := id) hr0 (r' := ⟨r0.ty, r0.w, r0.n, toInts r0.f⟩) (v' := ρ.rv id) (xs := xs) (w' := w)
          ⟨rfl, rfl, rfl, Nat.le_refl _, fun _ _ _ => rfl⟩ rfl q3 ⟨q4.1, fun i hi => by
            show CL _ (toInts r0.f i) _
            unfold toInts
            rw [← allInt_get ha i hi]
            exact q4.2 i hi⟩ (.inl rfl) (.inl ⟨rfl, rfl⟩)
        exact ⟨_, hturn⟩
    · exact canonK_sound l _ tmps w hR K r h

/-- a loop's summary is right -/
def LoopOK (P : Program) (C : Cfg) (blk : Nat) (body : Code) : Prop :=
  ∀ g, C.lspec blk = some g → ∀ (R : Type) (s : St) (K : Ex → St → Option R) (v : R), pickK (g s) K = some v →
    ∃ L, loopN (fun s K => codeK P C L body blk s K) (C.ann blk).keep (C.ann blk).out (s.boxes.map (·.1)) (s.rows.map (·.1)) L s K = some v

theorem codeK_sound (hspec : SpecOK P C) (hok : ∀ t ∈ C.eqOk, P.stoodInHeld t = false) (hmix : P.follows .mixedOrders = true) {r : R} {d : List Deferred} :
    ∀ (c : Code) (L blk : Nat) (s : St) (a : Act) (w : World) (K : Ex → St → Option R), (∀ p ∈ loopsOf c blk, LoopOK P C p.1 p.2) → Rel B w0 I0 s a.tmps w → a.defers = d → codeK P C L c blk s K = some r → c.wp P (Post B w0 I0 K r d) a w
  | .skip, L, blk, s, a, w, K, hl, hR, hd, h => wp_skip ⟨.normal, s, rfl, h, hR, hd⟩
  | .region id ops draw, L, blk, s, a, w, K, hl, hR, hd, h => by
    rw [codeK] at h
    exact regK_sound hspec hok hmix hR h fun s' a' w' hK hR' hd' => ⟨.normal, s', rfl, hK, hR', hd'.trans hd⟩
  | .seq x y, L, blk, s, a, w, K, hl, hR, hd, h => by
    rw [codeK] at h
    refine wp_seq (wp_mono (codeK_sound hspec hok hmix x L blk s a w _ (fun p hp => hl p (by simp [loopsOf, hp])) hR hd h) ?_)
    rintro e a' w' ⟨ae, s', rfl, hK, hR', hd'⟩
    cases ae with
    | normal => exact codeK_sound hspec hok hmix y L blk s' a' w' K (fun p hp => hl p (by simp [loopsOf, hp])) hR' hd' hK
    | exit id => exact ⟨.exit id, s', rfl, hK, hR', hd'⟩
    | ret => exact ⟨.ret, s', rfl, hK, hR', hd'⟩
  | .cond c x y, L, blk, s, a, w, K, hl, hR, hd, h => by
    rw [codeK] at h
    split at h
    · rename_i g hg
      have hc : a.eval c = .bool g := by
        obtain ⟨ρ, hRE⟩ := hR
        have := evOf_TVR hRE c
        rw [hg] at this
        exact this.bool
      refine wp_cond hc ?_
      split at h
      · rename_i t
        have hlb : ∀ b, g = b → Rel B w0 I0 ⟨setL s.tmps t (.c (.bool b)), s.boxes, s.rows⟩ a.tmps w := by
          rintro b rfl
          obtain ⟨ρ, hRE⟩ := hR
          exact ⟨ρ, hRE.learn t (by have e : a.tmps.getD t undef = .bool g := hc; rw [e]; exact TVR.mkBool _) (wf_bool _)⟩
        cases g
        · simp only [cond_false] at h
          rw [put_eq] at h
          exact codeK_sound hspec hok hmix y L blk _ a w K (fun p hp => hl p (by simp [loopsOf, hp])) (hlb false rfl) hd h
        · simp only [cond_true] at h
          rw [put_eq] at h
          exact codeK_sound hspec hok hmix x L blk _ a w K (fun p hp => hl p (by simp [loopsOf, hp])) (hlb true rfl) hd h
      · cases g
        · exact codeK_sound hspec hok hmix y L blk s a w K (fun p hp => hl p (by simp [loopsOf, hp])) hR hd h
        · exact codeK_sound hspec hok hmix x L blk s a w K (fun p hp => hl p (by simp [loopsOf, hp])) hR hd h
    · simp at h
  | .block id body, L, blk, s, a, w, K, hl, hR, hd, h => by
    rw [codeK] at h
    refine wp_block (wp_mono (codeK_sound hspec hok hmix body L id s a w _ (fun p hp => hl p (by simp [loopsOf, hp])) hR hd h) ?_)
    rintro e a' w' ⟨ae, s', rfl, hK, hR', hd'⟩
    cases ae with
    | normal => exact ⟨.normal, s', rfl, hK, hR', hd'⟩
    | exit i =>
      simp only [toEx, Exit.inBlock]
      dsimp only at hK
      cases hb : Nat.beq i id <;> rw [hb] at hK
      · have : i ≠ id := fun e => by rw [e] at hb; simp at hb
        rw [if_neg this]
        exact ⟨.exit i, s', rfl, hK, hR', hd'⟩
      · rw [if_pos (Nat.eq_of_beq_eq_true hb)]
        exact ⟨.normal, s', rfl, hK, hR', hd'⟩
    | ret => exact ⟨.ret, s', rfl, hK, hR', hd'⟩
  | .loop body, L, blk, s, a, w, K, hl, hR, hd, h => by
    rw [codeK] at h
    obtain ⟨s', h', hR'⟩ := promoteK_sound _ s a.tmps hR _ r h
    obtain ⟨sc, hc, hRc⟩ := canonK_sound _ s' a.tmps w hR' _ r h'
    obtain ⟨s1, h1, hR1⟩ := normO_sound hRc hc
    have hb : ∀ p ∈ loopsOf body blk, LoopOK P C p.1 p.2 := fun p hp => hl p (by simp [loopsOf, hp])
    split at h1
    · rename_i g hg
      obtain ⟨L', h2⟩ := hl (blk, body) (by simp [loopsOf]) g hg R s1 K r h1
      exact wp_loop_rounds L' (loopN_sound (fun s a w K' hR hd h => codeK_sound hspec hok hmix body L' blk s a w K' hb hR hd h) L' s1 a w hR1 hd h2)
    · exact wp_loop_rounds L (loopN_sound (fun s a w K' hR hd h => codeK_sound hspec hok hmix body L blk s a w K' hb hR hd h) L s1 a w hR1 hd h1)
  | .exit id, L, blk, s, a, w, K, hl, hR, hd, h => wp_exit ⟨.exit id, s, rfl, h, hR, hd⟩
  | .ret, L, blk, s, a, w, K, hl, hR, hd, h => wp_ret ⟨.ret, s, rfl, h, hR, hd⟩
  | .rangeFunc f ps asg body, L, blk, s, a, w, K, hl, hR, hd, h => by simp [codeK] at h
  | .scope b, L, blk, s, a, w, K, hl, hR, hd, h => by simp [codeK] at h
  | .label l, L, blk, s, a, w, K, hl, hR, hd, h => by simp [codeK] at h
  | .goto l, L, blk, s, a, w, K, hl, hR, hd, h => by simp [codeK] at h
  | .refuse why, L, blk, s, a, w, K, hl, hR, hd, h => by simp [codeK] at h
end
end Go.Am
