/- The abstract machine, second form: 'funK' is sound: what it gives is what the call gives. -/
import Derived.Test.YtdllaekpkcanbaaBmAny
import Derived.Test.YtdllaekpkcanbaaBmSk
set_option linter.unusedVariables false
set_option linter.unusedSimpArgs false
namespace Go.Bm
open Go.RowKit

section
variable {P : Program} {C : Cfg} {w : World} {R : Type} {Z : Base}

theorem cond_falseB {c a : Bool} (h : (bif c then a else false) = true) : c = true /\ a = true := by cases c <;> simp at h; exact ⟨rfl, h⟩
theorem drawOk_spec {ops : Array Oper} {m : List Nat} : ∀ (ps earlier : List (Nat × Oper × Option Prim)) (i : Nat), ps.map (·.1) = List.range' i ps.length -> drawOk ops m i earlier (ps.map (·.2)) = true ->
  ∀ pre x post, ps = pre ++ x :: post -> (wildI ops.toList m x.1 || Prim.simple x.2.2) = true /\ (∀ e ∈ x.2.1.after, Region.binds .any e = true -> e.on < x.1) /\
   ∀ y ∈ earlier ++ pre, ahead m x.1 y.1 = true \/ (wildI ops.toList m x.1 = false /\ wildI ops.toList m y.1 = false /\ Oper.apart ops y.2.1 x.2.1 = true /\ Prim.meet y.2.2 x.2.2 = false /\ appOk y.2.1 y.2.2 x.2.1 x.2.2 = true)
 | [], earlier, i, _, _, pre, x, post, h => by simp at h
 | (j, o, p) :: ps, earlier, i, hidx, hok, pre, x, post, h => by
  simp only [List.map_cons, List.length_cons, List.range'_succ, List.cons.injEq] at hidx
  obtain ⟨rfl, hidx⟩ := hidx
  simp only [List.map_cons, drawOk] at hok
  generalize hc : ((wildI ops.toList m j || Prim.simple p) && o.after.toList.all (fun e => !(Region.binds .any e) || Nat.blt e.on j) && allB (fun y : Nat × Oper × Option Prim => ahead m j y.1 || (!(wildI ops.toList m j) && !(wildI ops.toList m y.1) && (Oper.apart ops y.2.1 o && !(Prim.meet y.2.2 p) && appOk y.2.1 y.2.2 o p))) earlier) = c at hok
  cases c
  ·simp at hok
  ·simp only [cond_true] at hok
   simp only [Bool.and_eq_true] at hc
   obtain ⟨⟨c1, c2⟩, c3⟩ := hc
   cases pre with
   | nil =>
    simp at h
    obtain ⟨rfl, rfl⟩ := h
    refine ⟨c1, fun e he hb => ?_, fun y hy => ?_⟩
    ·have := List.all_eq_true.1 c2 e (by simpa using he)
     rw [hb] at this
     simpa using this
    ·simp at hy
     have := Qag.1 c3 y hy
     rw [Bool.or_eq_true] at this
     simp only [Bool.and_eq_true, Bool.not_eq_true'] at this
     rcases this with h | ⟨⟨w1, w2⟩, ⟨h1, h2⟩, h3⟩
     ·exact .inl h
     ·exact .inr ⟨w1, w2, h1, h2, h3⟩
   | cons q pre =>
    simp at h
    obtain ⟨rfl, rfl⟩ := h
    obtain ⟨h1, h2, h3⟩ := drawOk_spec (pre ++ x :: post) (earlier ++ [(j, o, p)]) (j + 1) hidx hok pre x post rfl
    refine ⟨h1, h2, fun y hy => h3 y ?_⟩
    simpa using hy

theorem drawOk_simple {ops : Array Oper} {m : List Nat} : ∀ (l : List (Oper × Option Prim)) (earlier : List (Nat × Oper × Option Prim)) (i : Nat), drawOk ops m i earlier l = true -> ∀ (j : Nat) (q : Oper × Option Prim), l[j]? = some q -> (wildI ops.toList m (i + j) || Prim.simple q.2) = true
 | [], _, _, _, j, q, hq => by simp at hq
 | (o, p) :: l, earlier, i, h, j, q, hq => by
  simp only [drawOk] at h
  obtain ⟨hc, h⟩ := cond_falseB h
  simp only [Bool.and_eq_true] at hc
  cases j with
  | zero => simp at hq; subst hq; exact hc.1.1
  | succ j =>
   rw [show i + (j + 1) = i + 1 + j from by omega]
   exact drawOk_simple l _ _ h j q (by simpa using hq)

theorem Rel.drew {s : St} {tmps : Array Value} (h : Rel Z s tmps w) : Rel Z s tmps { w with drawn := w.drawn + 1 } := by
 obtain ⟨ρ, h⟩ := h
 have hcc : ∀ (a : AC) (x : Value), CC ρ w a x -> CC ρ { w with drawn := w.drawn + 1 } a x := fun a x hx => CC.mono (w := w) (w' := { w with drawn := w.drawn + 1 }) (fun _ h => h) (fun _ _ => rfl) a x (AC.agree_refl rfl rfl rfl a) hx
 refine ⟨ρ, h.tl, fun i v hi => TVR.mono hcc v _ (h.tv i v hi), h.wt, h.wb, ?_, h.bi, ?_, h.ri, h.br, h.ib, h.fr.drew, h.fs, h.i0, h.i1, h.k0⟩
 ·intro k b hk
  obtain ⟨arr, q1, q2, q3⟩ := h.bx k b hk
  exact ⟨arr, q1, q2.mono fun a _ x hx => hcc a x hx, q3⟩
 ·intro id r hr
  obtain ⟨q1, q2, q0, xs, q3, q4⟩ := h.ro id r hr
  exact ⟨q1, q2, q0, xs, Qml q3 (fun _ _ => rfl), RowC.mono (w := w) (fun _ h => h) (fun _ _ => rfl) q4⟩

theorem regK_sound (hspec : Qan P C) (hok : ∀ t ∈ C.eqOk, P.stoodInHeld t = false) (hmix : P.follows .mixedOrders = true) {id : Nat} {ops : Array Oper} {draw : Bool} {s : St} {a : Act} (hR : Rel Z s a.tmps w) {K : St -> Option R} {r : R}
  (h : regK P C ops draw s K = some r) {Q : Exit -> Act -> World -> Prop} (hq : ∀ (s' : St) (a' : Act) (w' : World), K s' = some r -> Rel Z s' a'.tmps w' -> a'.defers = a.defers -> Q .normal a' w') :
  (Code.region id ops draw).wp P Q a w := by
 cases draw
 ·exact wp_region_list (seqK_sound hspec hok _ s a w hR h hq)
 ·simp only [regK, cond_true] at h
  refine wp_region_any hmix ?_
  obtain ⟨m, h, hm⟩ := masksK_spec (ops := ops.toList) ops.toList [] [] rfl rfl (fun i j hi => by simp at hi) h
  rcases drawK_runC hspec ops.toList 0 s _ r h with ⟨ps, sf, q1, q2, q3, q4⟩ | ⟨acc, sf, q1, j, q, q2, q3⟩
  ·cases hd : drawOk ops m 0 [] (ps.map (·.2)) <;> rw [hd] at q4
   ·simp at q4
   ·simp only [cond_true] at q4
    have hlen : ps.length = ops.size := by have := congrArg List.length q1; simpa using this
    have hidx : ps.map (·.1) = List.range' 0 ps.length := by rw [q2]; simp [hlen]
    have hsp := drawOk_spec ps [] 0 hidx hd
    have hpos : ∀ (i : Nat) (x : Nat × Oper × Option Prim), ps[i]? = some x -> x.1 = i /\ ops[i]? = some x.2.1 := by
     intro i x hx
     have h1 : (ps.map (·.1))[i]? = some x.1 := by simp [hx]
     have h2 : (ps.map (·.2.1))[i]? = some x.2.1 := by simp [hx]
     rw [hidx, List.getElem?_range'] at h1
     rw [q1] at h2
     ·simp at h1; exact ⟨by omega, by simpa using h2⟩
     ·exact (List.getElem?_eq_some_iff.1 hx).1
    refine any_sound hspec hok (m := m) (sf := sf) (d0 := a.defers) (fun a' w' hR' hd' => hq sf a' w' q4 hR' hd') ops.size _ ps s a _ hlen ?_ q3 hR.wf hR.drew rfl
    refine ⟨by simp, fun x hx => ?_, fun i hi => ?_, ?_, ?_, ?_⟩
    ·obtain ⟨pre, post, hs⟩ := List.append_of_mem hx
     obtain ⟨c1, c2, _⟩ := hsp pre x post hs
     obtain ⟨i, hi⟩ := List.getElem?_of_mem hx
     obtain ⟨p1, p2⟩ := hpos i x hi
     exact ⟨by rw [p1]; exact p2, c1, c2⟩
    ·constructor
     ·intro _
      have hlt : i < ps.length := by omega
      exact ⟨ps[i], List.getElem_mem hlt, (hpos i ps[i] (List.getElem?_eq_getElem hlt)).1⟩
     ·intro _
      simp [Array.getD, hi]
    ·rw [hidx]; exact List.pairwise_lt_range' 
    ·intro j o hj hl
     have hlt : j < ops.size := (Array.getElem?_eq_some_iff.1 hj).1
     simp [Array.getD, hlt] at hl
    ·intro pre x post hs y hy
     rcases (hsp pre x post hs).2.2 y (by simpa using hy) with h1 | h1
     ·exact .inl (hm _ _ h1)
     ·exact .inr h1
  ·cases hd : drawOk ops m 0 [] acc <;> rw [hd] at q1
   ·simp at q1
   ·have := drawOk_simple acc [] 0 hd j q q2
    rw [q3] at this; simp at this

def toEx : Ex -> Exit
 | .normal => .normal
 | .exit id => .exit id
 | .ret => .ret

def Post (Z : Base) (K : Ex -> St -> Option R) (r : R) (d : List Deferred) : Exit -> Act -> World -> Prop :=
 fun e a w => ∃ ae s, toEx ae = e /\ K ae s = some r /\ Rel Z s a.tmps w /\ a.defers = d

theorem promoteK_sound : ∀ (l : List (Nat × TypeId)) (s : St) (tmps : Array Value), Rel Z s tmps w -> ∀ (K : St -> Option R) (r : R), promoteK P l s K = some r -> ∃ s', K s' = some r /\ Rel Z s' tmps w
 | [], s, tmps, hR, K, r, h => ⟨s, h, hR⟩
 | (t, e) :: l, s, tmps, hR, K, r, h => by
  obtain ⟨tm, boxes, rows⟩ := s
  simp only [promoteK] at h
  split at h
  ·rename_i hn
   split at h
   ·rename_i ks hrow hks
    cases hw : Nat.ble 1 ks.length <;> rw [hw] at h
    ·simp at h
    ·simp only [cond_true, Qay] at h
     refine promoteK_sound l _ tmps ?_ K r h
     obtain ⟨ρ, hR⟩ := hR
     have hadd := hR.addRow (d := t) hrow (r := ⟨e, ks, []⟩) (v' := .slice none 0 0) (xs := []) (w' := w) (Below.refl _ _) (Nat.le_of_ble_eq_true hw) (World.ownsRow_nil w 0 e ks.length) ⟨by simp, by simp, fun i c hi => by simp at hi⟩ (fun g hg => by simp [Value.ownBlock] at hg)
     refine ⟨_, hadd.learn t ?_ (wf_c ⟨_, Qcc _ _ _ hrow, rfl, rfl⟩)⟩
     have hv : tmps.getD t undef = .slice none 0 0 := by
      have htl : t < tm.length := by
       rcases Nat.lt_or_ge t tm.length with hlt | hge
       ·exact hlt
       ·rw [Qg3, List.getD, List.getElem?_eq_none hge] at hn; simp at hn
      have hslot : tm[t]? = some (.c .nilSl) := by
       rw [Qg3, List.getD] at hn
       rw [List.getElem?_eq_getElem htl] at hn ⊢
       simpa using hn
      have := (hR.tv t _ hslot).c
      simpa [CC, CP] using this
     rw [hv]
     exact TVR.c' ⟨by simp only [Qck], by simp only [Qck], .inl ⟨rfl, rfl⟩⟩
   ·simp at h
  ·exact promoteK_sound l _ tmps hR K r h

theorem loopN_sound {step : St -> (Ex -> St -> Option R) -> Option R} {body : Code} {K : Ex -> St -> Option R} {r : R} {d : List Deferred}
  (hstep : ∀ (s : St) (a : Act) (w : World) (K' : Ex -> St -> Option R), Rel Z s a.tmps w -> a.defers = d -> step s K' = some r -> body.wp P (Post Z K' r d) a w) :
  ∀ (n : Nat) (s : St) (a : Act) (w : World), Rel Z s a.tmps w -> a.defers = d -> loopN P C step n s K = some r -> Code.rounds P body (Post Z K r d) n a w
 | 0, s, a, w, hR, hd, h => by simp [loopN] at h
 | n + 1, s, a, w, hR, hd, h => by
  rw [loopN] at h
  rw [rounds_succ]
  refine wp_mono (hstep s a w _ hR hd h) ?_
  rintro e a' w' ⟨ae, s2, rfl, hK, hR2, hd2⟩
  cases ae with
  | normal =>
   obtain ⟨st, ht, hRt⟩ := tidyK_sound hR2 hK
   exact loopN_sound hstep n st a' w' hRt hd2 ht
  | exit id => exact ⟨.exit id, s2, rfl, hK, hR2, hd2⟩
  | ret => exact ⟨.ret, s2, rfl, hK, hR2, hd2⟩

def InZ (Z : Base) : Prop := ∀ k b, Z.K0 k = some b -> isIn k = true

def SemOK (P : Program) (c : Code) (sk : Sk) (g : VSpec) : Prop :=
 ∀ (Z : Base) (_ : InZ Z) (a : Act) (w : World) (vars : List AC) (R : Type) (K : Ex -> St -> Option R) (r : R), Rel Z (Qkv sk vars) a.tmps w -> g R vars K = some r -> c.wp P (Post Z K r a.defers) a w

structure SubOK (P : Program) (C : Cfg) (c : Code) (blk : Nat) : Prop where
 l : ∀ p ∈ Qbl c blk, ∀ sk g, C.loops p.1 = some (sk, g) -> SemOK P (.loop p.2) sk g
 b : ∀ p ∈ Qbc c, ∀ sk g, C.blocks p.1 = some (sk, g) -> SemOK P (.block p.1 p.2) sk g
 c : ∀ p ∈ Qcg c blk, ∀ sk g, C.conds p.1 = some (sk, g) -> SemOK P (.cond (.tmp p.1) p.2.2.1 p.2.2.2) sk g

theorem Qhr : ∀ (c : Code) (b b' : Nat), Qbl c b = Qbl c b'
 | .seq x y, b, b' => by simp only [Qbl, Qhr x b b', Qhr y b b']
 | .cond _ x y, b, b' => by simp only [Qbl, Qhr x b b', Qhr y b b']
 | .block _ x, b, b' => by simp only [Qbl, Qhr x b b']
 | .loop x, b, b' => by simp only [Qbl, Qhr x b b']
 | .skip, _, _ => rfl
 | .region _ _ _, _, _ => rfl
 | .exit _, _, _ => rfl
 | .ret, _, _ => rfl
 | .rangeFunc _ _ _ _, _, _ => rfl
 | .scope _, _, _ => rfl
 | .label _, _, _ => rfl
 | .goto _, _, _ => rfl
 | .refuse _, _, _ => rfl
theorem Qhn : ∀ (c : Code) (b b' : Nat), Qcg c b = Qcg c b'
 | .seq x y, b, b' => by simp only [Qcg, Qhn x b b', Qhn y b b']
 | .cond c x y, b, b' => by cases c <;> simp only [Qcg, Qhn x b b', Qhn y b b']
 | .block _ x, b, b' => by simp only [Qcg, Qhn x b b']
 | .loop x, b, b' => by simp only [Qcg, Qhn x b b']
 | .skip, _, _ => rfl
 | .region _ _ _, _, _ => rfl
 | .exit _, _, _ => rfl
 | .ret, _, _ => rfl
 | .rangeFunc _ _ _ _, _, _ => rfl
 | .scope _, _, _ => rfl
 | .label _, _, _ => rfl
 | .goto _, _, _ => rfl
 | .refuse _, _, _ => rfl
theorem SubOK.any {c : Code} (b : Nat) {b' : Nat} (h : SubOK P C c b) : SubOK P C c b' :=
 ⟨fun p hp => h.l p (by rw [Qhr c b b']; exact hp), h.b, fun p hp => h.c p (by rw [Qhn c b b']; exact hp)⟩

theorem toldK_sound {c : Code} {told : Option (Sk × VSpec)} {s : St} {a : Act} {K : Ex -> St -> Option R} {r : R} {d : List Deferred} {run : Option R} (hZ : InZ Z)
  (ht : ∀ sk g, told = some (sk, g) -> SemOK P c sk g) (hR : Rel Z s a.tmps w) (hd : a.defers = d) (h : toldK told s K run = some r) (hrun : run = some r -> c.wp P (Post Z K r d) a w) : c.wp P (Post Z K r d) a w := by
 unfold toldK at h
 split at h
 ·exact hrun h
 ·rename_i sk g
  obtain ⟨hok, h2⟩ := Qci h
  split at h2
  ·rename_i vars hv
   obtain ⟨ρ, hR⟩ := hR
   obtain ⟨tm, boxes, rows⟩ := s
   subst hd
   exact ht sk g rfl Z hZ a w vars R K r ⟨ρ, hR.rebuild hZ hok hv⟩ h2
  ·simp at h2

theorem killP_CC {ρ : Env} {d : Nat} {a : AC} {x : Value} (h : CC ρ w a x) : CC ρ w (a.killP d) x := by
 cases a with
 | ptr k o => simp only [AC.killP]; cases Nat.beq k d <;> first | exact h | exact h.one
 | clo f fs cs => simp only [AC.killP]; cases (allB (notP d) fs && allB (notP d) cs) <;> first | exact h | exact h.one
 | _ => exact h
theorem mapC_CL {ρ : Env} {f : AC -> AC} (hf : ∀ (a : AC) (x : Value), CC ρ w a x -> CC ρ w (f a) x) : ∀ {l : List AC} {xs : List Value}, CL (CC ρ w) l xs -> CL (CC ρ w) (l.map f) xs
 | [], [], _ => trivial
 | _ :: _, _ :: _, h => ⟨hf _ _ h.1, mapC_CL hf h.2⟩
 | [], _ :: _, h => h.elim
 | _ :: _, [], h => h.elim
theorem mapC_TVR {ρ : Env} {f : AC -> AC} (hf : ∀ (a : AC) (x : Value), CC ρ w a x -> CC ρ w (f a) x) {v : TV} {x : Value} (h : TVR ρ w v x) : TVR ρ w (v.mapC f) x := by
 cases v with
 | dead => trivial
 | tup ps =>
  obtain ⟨ys, rfl, hy⟩ := h
  refine ⟨ys, rfl, ?_⟩
  generalize ys.toList = l at hy
  induction ps generalizing l with
  | nil => cases l <;> first | exact hy | exact hy.elim
  | cons p ps ih =>
   cases l with
   | nil => exact hy.elim
   | cons y l =>
    obtain ⟨g, cs⟩ := p
    refine ⟨?_, ih l hy.2⟩
    have := hy.1
    cases g
    ·obtain ⟨a, h1, ha⟩ := this; subst h1; exact ⟨_, rfl, hf _ _ ha⟩
    ·obtain ⟨zs, h1, hz⟩ := this; exact ⟨zs, h1, mapC_CL hf hz⟩
 | v g cs =>
  cases g
  ·obtain ⟨a, rfl, ha⟩ := h; exact ⟨_, rfl, hf _ _ ha⟩
  ·obtain ⟨ys, rfl, hy⟩ := h; exact ⟨ys, rfl, mapC_CL hf hy⟩
theorem RelE.forget {tm : List TV} {boxes : List (Nat × Box)} {rows : List (Nat × Row)} {ρ : Env} {tmps : Array Value} (h : RelE Z tm boxes rows ρ tmps w) {d : Nat} (hd : ∀ b, Z.K0 d ≠ some b) :
  RelE Z (tm.map (TV.mapC (AC.killP d))) ((del d boxes).map fun p => (p.1, (⟨p.2.ty, p.2.cells.map (AC.killP d)⟩ : Box))) rows ρ tmps w := by
 have hlk : ∀ k, look ((del d boxes).map fun p => (p.1, (⟨p.2.ty, p.2.cells.map (AC.killP d)⟩ : Box))) k = (look (del d boxes) k).map fun b => ⟨b.ty, b.cells.map (AC.killP d)⟩ := fun k => Qld (fun b : Box => (⟨b.ty, b.cells.map (AC.killP d)⟩ : Box)) _ k
 have hlk' : ∀ (k : Nat) (b : Box), look ((del d boxes).map fun p => (p.1, (⟨p.2.ty, p.2.cells.map (AC.killP d)⟩ : Box))) k = some b -> k ≠ d /\ ∃ b', look boxes k = some b' /\ b = ⟨b'.ty, b'.cells.map (AC.killP d)⟩ := by
  intro k b hk
  rw [hlk] at hk
  simp only [Option.map_eq_some_iff] at hk
  obtain ⟨b', h1, rfl⟩ := hk
  obtain ⟨h2, h3⟩ := Qhq h1
  exact ⟨h2, b', h3, rfl⟩
 have hbx : ∀ (k : Nat) (b : Box), k ≠ d -> look boxes k = some b -> ∃ b', look ((del d boxes).map fun p => (p.1, (⟨p.2.ty, p.2.cells.map (AC.killP d)⟩ : Box))) k = some b' := fun k b hne hk => ⟨_, by rw [hlk, Qgn _ _ _ hne, hk]; rfl⟩
 have hnp : ∀ a, notP d a = true -> AC.wfP boxes a -> AC.wfP ((del d boxes).map fun p => (p.1, (⟨p.2.ty, p.2.cells.map (AC.killP d)⟩ : Box))) a := by
  intro a hn ha
  cases a <;> try exact trivial
  rename_i k o
  obtain ⟨b, hb⟩ := ha
  simp only [notP, Bool.not_eq_true'] at hn
  exact hbx k b (Qi4 hn) hb
 have hwf : ∀ a, AC.wf boxes rows a -> AC.wf ((del d boxes).map fun p => (p.1, (⟨p.2.ty, p.2.cells.map (AC.killP d)⟩ : Box))) rows (a.killP d) := by
  intro a ha
  cases a with
  | ptr k o =>
   simp only [AC.killP]
   cases hk : Nat.beq k d
   ·obtain ⟨b, hb⟩ := ha
    exact hbx k b (Qi4 hk) hb
   ·exact trivial
  | clo f fs cs =>
   simp only [AC.killP]
   cases hc : (allB (notP d) fs && allB (notP d) cs)
   ·exact trivial
   ·simp only [Bool.and_eq_true] at hc
    exact ⟨fun a h' => hnp a (Qag.1 hc.1 a h') (ha.1 a h'), fun a h' => hnp a (Qag.1 hc.2 a h') (ha.2 a h')⟩
  | _ => exact ha
 refine ⟨by simpa using h.tl, ?_, ?_, ?_, ?_, ?_, h.ro, h.ri, ?_, ?_, h.fr, h.fs, h.i0, h.i1, ?_⟩
 ·intro i v hi
  simp only [List.getElem?_map, Option.map_eq_some_iff] at hi
  obtain ⟨u, hu, rfl⟩ := hi
  exact mapC_TVR (fun _ _ => killP_CC) (h.tv i u hu)
 ·intro v hv
  simp only [List.mem_map] at hv
  obtain ⟨u, hu, rfl⟩ := hv
  have := h.wt u hu
  cases u with
  | dead => trivial
  | v g cs =>
   intro a ha
   simp only [List.mem_map] at ha
   obtain ⟨c, hc, rfl⟩ := ha
   exact hwf c (this c hc)
  | tup ps =>
   intro p hp a ha
   simp only [List.mem_map] at hp
   obtain ⟨q, hq, rfl⟩ := hp
   simp only [List.mem_map] at ha
   obtain ⟨c, hc, rfl⟩ := ha
   exact hwf c (this q hq c hc)
 ·intro k b hk a ha
  obtain ⟨_, b', hb', rfl⟩ := hlk' k b hk
  simp only [List.mem_map] at ha
  obtain ⟨c, hc, rfl⟩ := ha
  exact hwf c (h.wb k b' hb' c hc)
 ·intro k b hk
  obtain ⟨_, b', hb', rfl⟩ := hlk' k b hk
  obtain ⟨arr, h1, h2, h3⟩ := h.bx k b' hb'
  exact ⟨arr, h1, mapC_CL (fun _ _ => killP_CC) h2, h3⟩
 ·intro k k' b b' hk hk'
  obtain ⟨_, _, p1, _⟩ := hlk' k b hk
  obtain ⟨_, _, p2, _⟩ := hlk' k' b' hk'
  exact h.bi k k' _ _ p1 p2
 ·intro k b j q hk hq
  obtain ⟨_, _, p1, _⟩ := hlk' k b hk
  exact h.br k _ j q p1 hq
 ·intro b hb
  obtain ⟨q1, q2, q3⟩ := h.ib b hb
  exact ⟨q1, fun k bo hk => by obtain ⟨_, _, p, _⟩ := hlk' k bo hk; exact q2 k _ p, q3⟩
 ·intro k b hk
  obtain ⟨p1, bo, p2⟩ := h.k0 k b hk
  exact ⟨p1, hbx k bo (by rintro rfl; exact hd b hk) p2⟩
theorem forgetK_sound (hZ : InZ Z) {tmps : Array Value} {K : St -> Option R} {r : R} : ∀ (l : List Nat) (s : St), Rel Z s tmps w -> forgetK l s K = some r -> ∃ s', K s' = some r /\ Rel Z s' tmps w
 | [], s, hR, h => ⟨s, h, hR⟩
 | d :: l, ⟨tm, boxes, rows⟩, hR, h => by
  simp only [forgetK] at h
  split at h
  ·exact forgetK_sound hZ l _ hR h
  ·cases hd : isIn d <;> rw [hd] at h
   ·simp only [cond_false, Qay] at h
    obtain ⟨ρ, hR⟩ := hR
    exact forgetK_sound hZ l _ ⟨ρ, hR.forget (d := d) fun b hb => by rw [hZ d b hb] at hd; cases hd⟩ h
   ·simp at h

theorem Qfm (hspec : Qan P C) (hok : ∀ t ∈ C.eqOk, P.stoodInHeld t = false) (hmix : P.follows .mixedOrders = true) (hZ : InZ Z) {r : R} {d : List Deferred} :
  ∀ (c : Code) (L blk : Nat) (s : St) (a : Act) (w : World) (K : Ex -> St -> Option R), SubOK P C c blk -> Rel Z s a.tmps w -> a.defers = d -> codeK P C L c blk s K = some r -> c.wp P (Post Z K r d) a w
 | .skip, L, blk, s, a, w, K, hl, hR, hd, h => wp_skip ⟨.normal, s, rfl, h, hR, hd⟩
 | .region id ops draw, L, blk, s, a, w, K, hl, hR, hd, h => by
  rw [codeK] at h
  obtain ⟨s0, h, hR⟩ := forgetK_sound hZ _ s hR h
  exact regK_sound hspec hok hmix hR h fun s' a' w' hK hR' hd' => ⟨.normal, s', rfl, hK, hR', hd'.trans hd⟩
 | .seq x y, L, blk, s, a, w, K, hl, hR, hd, h => by
  rw [codeK] at h
  refine wp_seq (wp_mono (Qfm hspec hok hmix hZ x L blk s a w _ ⟨fun p hp => hl.l p (by simp [Qbl, hp]), fun p hp => hl.b p (by simp [Qbc, hp]), fun p hp => hl.c p (by simp [Qcg, hp])⟩ hR hd h) ?_)
  rintro e a' w' ⟨ae, s', rfl, hK, hR', hd'⟩
  cases ae with
  | normal => exact Qfm hspec hok hmix hZ y L blk s' a' w' K ⟨fun p hp => hl.l p (by simp [Qbl, hp]), fun p hp => hl.b p (by simp [Qbc, hp]), fun p hp => hl.c p (by simp [Qcg, hp])⟩ hR' hd' hK
  | exit id => exact ⟨.exit id, s', rfl, hK, hR', hd'⟩
  | ret => exact ⟨.ret, s', rfl, hK, hR', hd'⟩
 | .cond c x y, L, blk, s, a, w, K, hl, hR, hd, h => by
  have hx : SubOK P C x blk := ⟨fun p hp => hl.l p (by simp [Qbl, hp]), fun p hp => hl.b p (by simp [Qbc, hp]), fun p hp => hl.c p (by cases c <;> simp [Qcg, hp])⟩
  have hy : SubOK P C y blk := ⟨fun p hp => hl.l p (by simp [Qbl, hp]), fun p hp => hl.b p (by simp [Qbc, hp]), fun p hp => hl.c p (by cases c <;> simp [Qcg, hp])⟩
  rw [codeK] at h
  refine toldK_sound (c := .cond c x y) hZ ?_ hR hd h fun h2 => ?_
  ·intro sk g ht
   unfold condTold at ht
   split at ht
   ·rename_i t
    exact hl.c (t, 0, x, y) (by simp [Qcg]) sk g ht
   ·simp at ht
  ·split at h2
   ·rename_i g hg
    have hc : a.eval c = .bool g := by
     obtain ⟨ρ, hRE⟩ := hR
     have := evOf_TVR hRE c
     rw [hg] at this
     exact this.bool
    refine wp_cond hc ?_
    split at h2
    ·rename_i t
     have hlb : ∀ b, g = b -> Rel Z ⟨setL s.tmps t (.c (.bool b)), s.boxes, s.rows⟩ a.tmps w := by
      rintro b rfl
      obtain ⟨ρ, hRE⟩ := hR
      exact ⟨ρ, hRE.learn t (by have e : a.tmps.getD t undef = .bool g := hc; rw [e]; exact TVR.mkBool _) (wf_bool _)⟩
     cases g
     ·simp only [cond_false] at h2
      rw [put_eq] at h2
      exact Qfm hspec hok hmix hZ y L blk _ a w K hy (hlb false rfl) hd h2
     ·simp only [cond_true] at h2
      rw [put_eq] at h2
      exact Qfm hspec hok hmix hZ x L blk _ a w K hx (hlb true rfl) hd h2
    ·cases g
     ·exact Qfm hspec hok hmix hZ y L blk s a w K hy hR hd h2
     ·exact Qfm hspec hok hmix hZ x L blk s a w K hx hR hd h2
   ·simp at h2
 | .block id body, L, blk, s, a, w, K, hl, hR, hd, h => by
  have hb : SubOK P C body id := SubOK.any blk ⟨fun p hp => hl.l p (by simp [Qbl, hp]), fun p hp => hl.b p (by simp [Qbc, hp]), fun p hp => hl.c p (by simp [Qcg, hp])⟩
  rw [codeK] at h
  refine toldK_sound (c := .block id body) hZ (hl.b (id, body) (by simp [Qbc])) hR hd h fun h2 => ?_
  refine wp_block (wp_mono (Qfm hspec hok hmix hZ body L id s a w _ hb hR hd h2) ?_)
  rintro e a' w' ⟨ae, s', rfl, hK, hR', hd'⟩
  cases ae with
  | normal => exact ⟨.normal, s', rfl, hK, hR', hd'⟩
  | exit i =>
   simp only [toEx, Exit.inBlock]
   dsimp only at hK
   cases hb : Nat.beq i id <;> rw [hb] at hK
   ·have : i ≠ id := fun e => by rw [e] at hb; simp at hb
    rw [if_neg this]
    exact ⟨.exit i, s', rfl, hK, hR', hd'⟩
   ·rw [if_pos (Nat.eq_of_beq_eq_true hb)]
    exact ⟨.normal, s', rfl, hK, hR', hd'⟩
  | ret => exact ⟨.ret, s', rfl, hK, hR', hd'⟩
 | .loop body, L, blk, s, a, w, K, hl, hR, hd, h => by
  rw [codeK] at h
  obtain ⟨s', h', hR'⟩ := promoteK_sound _ s a.tmps hR _ r h
  obtain ⟨s1, h1, hR1⟩ := tidyK_sound hR' h'
  have hb : SubOK P C body blk := ⟨fun p hp => hl.l p (by simp [Qbl, hp]), fun p hp => hl.b p (by simp [Qbc, hp]), fun p hp => hl.c p (by simp [Qcg, hp])⟩
  refine toldK_sound (c := .loop body) hZ (hl.l (loopKey body, body) (by simp [Qbl])) hR1 hd h1 fun h2 => ?_
  exact wp_loop_rounds L (loopN_sound (fun s a w K' hR hd h => Qfm hspec hok hmix hZ body L blk s a w K' hb hR hd h) L s1 a w hR1 hd h2)
 | .exit id, L, blk, s, a, w, K, hl, hR, hd, h => wp_exit ⟨.exit id, s, rfl, h, hR, hd⟩
 | .ret, L, blk, s, a, w, K, hl, hR, hd, h => wp_ret ⟨.ret, s, rfl, h, hR, hd⟩
 | .rangeFunc f ps asg body, L, blk, s, a, w, K, hl, hR, hd, h => by simp [codeK] at h
 | .scope b, L, blk, s, a, w, K, hl, hR, hd, h => by simp [codeK] at h
 | .label l, L, blk, s, a, w, K, hl, hR, hd, h => by simp [codeK] at h
 | .goto l, L, blk, s, a, w, K, hl, hR, hd, h => by simp [codeK] at h
 | .refuse why, L, blk, s, a, w, K, hl, hR, hd, h => by simp [codeK] at h

theorem exEq_eq {e e' : Ex} (h : exEq e e' = true) : e = e' := by
 cases e <;> cases e' <;> simp only [exEq] at h <;> first | rfl | (simp at h; done) | (rw [Nat.eq_of_beq_eq_true h])

theorem readX_pick {s : St} {e' : Ex} {tmps : Array Value} (hZ : InZ Z) (hR : Rel Z s tmps w) : ∀ {exits : List (Ex × Sk)} {i n : Nat} {o : List AC}, readX exits i e' s = some (n, o) ->
  i <= n /\ ∃ sk, (∀ (R : Type) (K : Ex -> St -> Option R), pickX o K exits i n = K e' (Qkv sk o)) /\ Rel Z (Qkv sk o) tmps w
 | [], i, n, o, h => by simp [readX] at h
 | (e, sk) :: l, i, n, o, h => by
  simp only [readX] at h
  cases hb : (exEq e e' && sk.okB) <;> rw [hb] at h
  ·simp only [cond_false] at h
   obtain ⟨h1, sk', h2, h3⟩ := readX_pick hZ hR h
   refine ⟨by omega, sk', fun R K => ?_, h3⟩
   simp only [pickX]
   rw [beq_ne (by omega)]
   exact h2 R K
  ·simp only [cond_true] at h
   simp only [Bool.and_eq_true] at hb
   split at h
   ·rename_i vars hv
    simp at h
    obtain ⟨rfl, rfl⟩ := h
    refine ⟨Nat.le_refl _, sk, fun R K => ?_, ?_⟩
    ·simp only [pickX, Nat.beq_refl, cond_true]
     rw [exEq_eq hb.1]
    ·obtain ⟨ρ, hR⟩ := hR
     obtain ⟨tm, boxes, rows⟩ := s
     exact ⟨ρ, hR.rebuild hZ hb.2 hv⟩
   ·simp at h

theorem loop_told (hspec : Qan P C) (hok : ∀ t ∈ C.eqOk, P.stoodInHeld t = false) (hmix : P.follows .mixedOrders = true) {L blk : Nat} {body : Code} {sk : Sk} {exits : List (Ex × Sk)} {m : List AC -> Option (Nat × List AC)}
  (hsk : sk.okB = true) (hsub : SubOK P C body blk) (hm : ∀ vars o, m vars = some o -> ∃ n, loopF (stepL P C L blk body sk exits) n vars = some o) : SemOK P (.loop body) sk (gOf exits m) := by
 intro Z hZ a w vars R K r hR h
 simp only [gOf, Option.bind_eq_some_iff] at h
 obtain ⟨⟨t, o⟩, h1, h2⟩ := h
 obtain ⟨n, hn⟩ := hm vars _ h1
 have key : ∀ (n : Nat) (vars : List AC) (a' : Act) (w' : World), Rel Z (Qkv sk vars) a'.tmps w' -> a'.defers = a.defers -> loopF (stepL P C L blk body sk exits) n vars = some (t, o) -> Code.rounds P body (Post Z K r a.defers) n a' w' := by
  intro n
  induction n with
  | zero => intro vars a' w' _ _ h; simp [loopF] at h
  | succ n ih =>
   intro vars a' w' hR' hd' h
   simp only [loopF, Option.bind_eq_some_iff] at h
   obtain ⟨⟨t', o'⟩, q1, q2⟩ := h
   rw [rounds_succ]
   refine wp_mono (Qfm hspec hok hmix hZ body L blk _ a' w' _ hsub hR' hd' q1) ?_
   rintro e a2 w2 ⟨ae, s', rfl, hK, hR2, hd2⟩
   have hexit : ∀ e' : Ex, readX exits 1 e' s' = some (t', o') -> Post Z K r a.defers (toEx e') a2 w2 := by
    intro e' hx
    obtain ⟨p1, sk', p2, p3⟩ := readX_pick hZ hR2 hx
    have ht : t' ≠ 0 := by omega
    dsimp only at q2
    rw [if_neg ht] at q2
    simp at q2
    obtain ⟨rfl, rfl⟩ := q2
    rw [p2 R K] at h2
    exact ⟨e', _, rfl, h2, p3, hd2⟩
   cases ae with
   | normal =>
    obtain ⟨s3, h3, hR3⟩ := tidyK_sound hR2 hK
    split at h3
    ·rename_i vars' hv
     simp at h3
     obtain ⟨rfl, rfl⟩ := h3
     simp only [if_true] at q2
     obtain ⟨ρ, hR3⟩ := hR3
     obtain ⟨tm, boxes, rows⟩ := s3
     exact ih _ a2 w2 ⟨ρ, hR3.rebuild hZ hsk hv⟩ hd2 q2
    ·simp at h3
   | exit i => exact hexit _ hK
   | ret => exact hexit _ hK
 exact wp_loop_rounds n (key n vars a w hR rfl hn)

theorem block_told (hspec : Qan P C) (hok : ∀ t ∈ C.eqOk, P.stoodInHeld t = false) (hmix : P.follows .mixedOrders = true) {L id : Nat} {body : Code} {sk : Sk} {exits : List (Ex × Sk)} {m : List AC -> Option (Nat × List AC)}
  (hsub : SubOK P C body id) (hm : ∀ vars o, m vars = some o -> blockM P C L id body sk exits vars = some o) : SemOK P (.block id body) sk (gOf exits m) := by
 intro Z hZ a w vars R K r hR h
 simp only [gOf, Option.bind_eq_some_iff] at h
 obtain ⟨⟨t, o⟩, h1, h2⟩ := h
 have hb := hm vars _ h1
 refine wp_block (wp_mono (Qfm hspec hok hmix hZ body L id _ a w _ hsub hR rfl hb) ?_)
 rintro e a' w' ⟨ae, s', rfl, hK, hR', hd'⟩
 have hexit : ∀ e' : Ex, readX exits 1 e' s' = some (t, o) -> Post Z K r a.defers (toEx e') a' w' := by
  intro e' hx
  obtain ⟨p1, sk', p2, p3⟩ := readX_pick hZ hR' hx
  rw [p2 R K] at h2
  exact ⟨e', _, rfl, h2, p3, hd'⟩
 cases ae with
 | normal => exact hexit .normal hK
 | exit i =>
  simp only [toEx, Exit.inBlock]
  dsimp only at hK
  cases hb : Nat.beq i id <;> rw [hb] at hK
  ·have : i ≠ id := fun e => by rw [e] at hb; simp at hb
   rw [if_neg this]
   exact hexit (.exit i) hK
  ·rw [if_pos (Nat.eq_of_beq_eq_true hb)]
   exact hexit .normal hK
 | ret => exact hexit .ret hK

end
end Go.Bm
