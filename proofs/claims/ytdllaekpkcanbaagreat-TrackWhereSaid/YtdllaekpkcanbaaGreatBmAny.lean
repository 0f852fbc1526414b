/- The abstract machine, second form: regions are sound, in whatever order they run. -/
import Derived.Test.YtdllaekpkcanbaaGreatBmReg
set_option linter.unusedVariables false
set_option linter.unusedSimpArgs false
namespace Go.Bm
open Go.RowKit

section
variable {P : Program} {C : Cfg} {w : World} {R : Type} {Z : Base}

theorem operK_of_stepS (hspec : SpecOK P C) {ops : List Oper} {o : Oper} {s s' : St} {p : Option Prim} (h : stepS (P := P) (C := C) ops o s = some (p, s')) (hs : Prim.simple p = true) (K : Option Prim -> St -> Option R) :
  operK P C false ops o s K = K p s' := by
 have hrun : ∀ s1 : St, s1 = s -> want? ops o s.tmps = some true -> (opK P C (evOf s1.tmps) o.dst o.op fun p => memK C o.dst (p.dr false) s1 fun v s' => put s' o.dst v (K (some (p.dr false)))) = K p s' := by
  rintro s1 rfl hw
  unfold stepS at h
  rw [hw] at h
  dsimp only at h
  rw [opK_bind]
  cases hp : opK P C (evOf s1.tmps) o.dst o.op some with
  | none => rw [hp] at h; simp at h
  | some q =>
   rw [hp] at h
   simp only [Option.bind_some] at h
   cases hm : memD (C := C) o.dst (q.dr false) s1 with
   | none => rw [hm] at h; simp at h
   | some z =>
    rw [hm] at h
    simp at h
    obtain ⟨rfl, rfl⟩ := h
    simp only [Option.bind_some]
    rw [memD_eq hspec hs, hm]
    simp only [Option.bind_some, putS_eq]
 have hskip : ∀ s1 : St, s1 = s -> want? ops o s.tmps = some false -> put s1 o.dst (.tup []) (K none) = K p s' := by
  rintro s1 rfl hw
  unfold stepS at h
  rw [hw] at h
  simp at h
  obtain ⟨rfl, rfl⟩ := h
  rw [putS_eq]
 unfold operK guardK
 cases hg : o.guard with
 | none => exact hrun s rfl (by simp [want?, hg])
 | some jw =>
  obtain ⟨j, want⟩ := jw
  dsimp only
  cases hj : ops[j]? with
  | none => unfold stepS want? at h; rw [hg] at h; dsimp only at h; rw [hj] at h; simp at h
  | some oj =>
   dsimp only
   cases ht : oj.dst with
   | none => unfold stepS want? at h; rw [hg] at h; dsimp only at h; rw [hj] at h; dsimp only at h; rw [ht] at h; simp at h
   | some t =>
    dsimp only
    split
    ·rename_i g hgv
     have hw : want? ops o s.tmps = some (g == want) := by simp only [want?, hg, hj, ht, hgv]
     have hself : ∀ b, g = b -> (⟨setL s.tmps t (.c (.bool b)), s.boxes, s.rows⟩ : St) = s := by
      rintro b rfl
      rw [setL_self hgv (by simp)]
     cases g
     ·simp only [cond_false]
      rw [put_eq]
      dsimp only
      cases want
      ·exact hrun _ (hself false rfl) (by rw [hw]; rfl)
      ·exact hskip _ (hself false rfl) (by rw [hw]; rfl)
     ·simp only [cond_true]
      rw [put_eq]
      dsimp only
      cases want
      ·exact hskip _ (hself true rfl) (by rw [hw]; rfl)
      ·exact hrun _ (hself true rfl) (by rw [hw]; rfl)
    ·rename_i hgv
     exact hskip _ rfl (by simp only [want?, hg, hj, ht, hgv])
    ·rename_i hno hno2
     have hw : want? ops o s.tmps = none := by
      unfold want?
      rw [hg]; dsimp only
      rw [hj]; dsimp only
      rw [ht]; dsimp only
      split
      ·rename_i g hgv; exact (hno g hgv).elim
      ·rename_i hgv; exact (hno2 hgv).elim
      ·rfl
     unfold stepS at h
     rw [hw] at h
     simp at h

theorem Rel.wf {s : St} {tmps : Array Value} (h : Rel Z s tmps w) : WFst s := by
 obtain ⟨ρ, h⟩ := h
 exact ⟨h.wt, h.wb⟩

structure Left (P : Program) (C : Cfg) (ops : Array Oper) (m : List Nat) (listed : Array Bool) (rem : List (Nat × Oper × Option Prim)) : Prop where
 sz : listed.size = ops.size
 op : ∀ x ∈ rem, ops[x.1]? = some x.2.1 /\ (wildI ops.toList m x.1 || Prim.simple x.2.2) = true /\ ∀ e ∈ x.2.1.after, Region.binds .any e = true -> e.on < x.1
 out : ∀ i, i < ops.size -> (listed.getD i true = false ↔ ∃ x ∈ rem, x.1 = i)
 ord : (rem.map (·.1)).Pairwise (· < ·)
 cl : ∀ j o, ops[j]? = some o -> listed.getD j false = true -> ∀ e ∈ o.after, Region.binds .any e = true -> listed.getD e.on false = true
 pr : ∀ pre x post, rem = pre ++ x :: post -> ∀ y ∈ pre, Before ops.toList x.1 y.1 \/ (wildI ops.toList m x.1 = false /\ wildI ops.toList m y.1 = false /\ Oper.apart ops y.2.1 x.2.1 = true /\ Prim.meet y.2.2 x.2.2 = false /\ appOk y.2.1 y.2.2 x.2.1 x.2.2 = true)

theorem any_sound (hspec : SpecOK P C) (hok : ∀ t ∈ C.eqOk, P.stoodInHeld t = false) {ops : Array Oper} {m : List Nat} {Q : Exit -> Act -> World -> Prop} {sf : St} {d0 : List Deferred}
  (hq : ∀ (a : Act) (w : World), Rel Z sf a.tmps w -> a.defers = d0 -> Q .normal a w) :
  ∀ (fuel : Nat) (listed : Array Bool) (rem : List (Nat × Oper × Option Prim)) (s : St) (a : Act) (w : World), rem.length = fuel -> Left P C ops m listed rem -> runC P C ops.toList m rem s sf -> WFst s -> Rel Z s a.tmps w -> a.defers = d0 ->
  wpAny P .any ops Q fuel listed a w
 | 0, listed, rem, s, a, w, hl, hL, hrun, hwf, hR, hd => by
  have hr : rem = [] := List.eq_nil_of_length_eq_zero hl
  subst hr
  have : s = sf := hrun
  subst this
  refine ⟨?_, hq a w hR hd⟩
  apply List.eq_nil_iff_forall_not_mem.2
  intro i hi
  obtain ⟨h1, o, h2, _⟩ := mem_ready.1 hi
  obtain ⟨x, hx, _⟩ := (hL.out i (Array.getElem?_eq_some_iff.1 h2).1).1 h1
  simp at hx
 | fuel + 1, listed, rem, s, a, w, hl, hL, hrun, hwf, hR, hd => by
  refine ⟨fun hnil => ?_, fun i hi => ?_⟩
  ·exfalso
   cases rem with
   | nil => simp at hl
   | cons x rem =>
    obtain ⟨h1, _, h2⟩ := hL.op x (by simp)
    have hlt : x.1 < ops.size := (Array.getElem?_eq_some_iff.1 h1).1
    have : x.1 ∈ Region.ready .any ops listed := by
     refine mem_ready.2 ⟨(hL.out x.1 hlt).2 ⟨x, by simp, rfl⟩, x.2.1, h1, fun e he hb => ?_⟩
     have hlt2 := h2 e he hb
     cases hle : listed.getD e.on false with
     | true => rfl
     | false =>
      have hsz : e.on < listed.size := by rw [hL.sz]; omega
      have : listed.getD e.on true = false := by
       rw [Array.getD, dif_pos hsz] at hle ⊢
       exact hle
      obtain ⟨y, hy, hye⟩ := (hL.out e.on (by omega)).1 this
      have hord := hL.ord
      simp only [List.map_cons, List.pairwise_cons] at hord
      simp only [List.mem_cons] at hy
      rcases hy with rfl | hy
      ·omega
      ·have := hord.1 y.1 (List.mem_map_of_mem hy); omega
    rw [hnil] at this
    simp at this
  ·obtain ⟨h1, o, h2, h3⟩ := mem_ready.1 hi
   have hilt : i < ops.size := (Array.getElem?_eq_some_iff.1 h2).1
   obtain ⟨x, hx, hxi⟩ := (hL.out i hilt).1 h1
   subst hxi
   obtain ⟨hxo, hxs, hxe⟩ := hL.op x hx
   have hoo : o = x.2.1 := by rw [h2] at hxo; simpa using hxo
   subst hoo
   obtain ⟨pre, post, hsplit⟩ := List.append_of_mem hx
   have hunl : ∀ y ∈ rem, listed.getD y.1 false = false := by
    intro y hy
    have hlt : y.1 < ops.size := (Array.getElem?_eq_some_iff.1 (hL.op y hy).1).1
    have := (hL.out y.1 hlt).2 ⟨y, hy, rfl⟩
    have hsz : y.1 < listed.size := by rw [hL.sz]; exact hlt
    rw [Array.getD, dif_pos hsz] at this ⊢
    exact this
   have hfree : ∀ y ∈ pre, wildI ops.toList m x.1 = false /\ wildI ops.toList m y.1 = false /\ Oper.apart ops y.2.1 x.2.1 = true /\ Prim.meet y.2.2 x.2.2 = false /\ appOk y.2.1 y.2.2 x.2.1 x.2.2 = true := by
    intro y hy
    rcases hL.pr pre x post hsplit y hy with hr | hr
    ·exfalso
     have hyl := hunl y (by rw [hsplit]; simp [hy])
     have hbef : ∀ (i j : Nat), Before ops.toList i j -> (∀ oi, ops[i]? = some oi -> ∀ e ∈ oi.after, Region.binds .any e = true -> listed.getD e.on false = true) -> listed.getD j false = true := by
      intro i j hij
      induction hij with
      | one ho he hb => intro hcl; exact hcl _ (by simpa using ho) _ (by simpa using he) hb
      | more ho he hb _ ih =>
       intro hcl
       have hel := hcl _ (by simpa using ho) _ (by simpa using he) hb
       exact ih fun oe hoe e2 he2 hb2 => hL.cl _ oe hoe hel e2 he2 hb2
     have := hbef x.1 y.1 hr fun oi hoi e he hb => by
      rw [h2] at hoi; simp at hoi; subst hoi
      exact h3 e he hb
     rw [this] at hyl; simp at hyl
    ·exact hr
   rw [hsplit] at hrun
   obtain ⟨s1, hs1, hrun1⟩ := runC_pull pre s hwf hrun hfree
   have hex : ∃ b, operK P C b ops.toList x.2.1 s (fun po s' => (some (po, s') : Option (Option Prim × St))) = some (x.2.2, s1) := by
    unfold stepG at hs1
    cases hw : wildI ops.toList m x.1
    ·rw [if_neg (by rw [hw]; simp)] at hs1
     rw [hw] at hxs
     exact ⟨false, operK_of_stepS hspec hs1 (by simpa using hxs) _⟩
    ·rw [if_pos hw] at hs1
     exact ⟨true, hs1⟩
   obtain ⟨b, hex⟩ := hex
   have hop := operK_sound (Q := Q) (next := wpAny P .any ops Q fuel (listed.setIfInBounds x.1 true)) hspec hok hR hex (fun po s' a' w' hK hR' hd' => by
    simp at hK
    obtain ⟨rfl, rfl⟩ := hK
    refine any_sound hspec hok hq fuel _ (pre ++ post) _ a' w' ?_ ?_ hrun1 hR'.wf hR' (hd'.trans hd)
    ·rw [hsplit] at hl; simp at hl ⊢; omega
    ·have hsub : ∀ y, y ∈ pre ++ post -> y ∈ rem := by
      intro y hy; rw [hsplit]; simp at hy ⊢; rcases hy with hy | hy <;> simp [hy]
     have hne : ∀ y ∈ pre ++ post, y.1 ≠ x.1 := by
      intro y hy
      have hord := hL.ord
      rw [hsplit] at hord
      simp only [List.map_append, List.map_cons, List.pairwise_append, List.pairwise_cons] at hord
      obtain ⟨o1, ⟨o2, o3⟩, o4⟩ := hord
      simp at hy
      rcases hy with hy | hy
      ·have := o4 y.1 (List.mem_map_of_mem hy) x.1 (by simp); omega
      ·have := o2 y.1 (List.mem_map_of_mem hy); omega
     have hg : ∀ (j : Nat) (d : Bool), (listed.setIfInBounds x.1 true).getD j d = if j = x.1 then true else listed.getD j d := by
      intro j d
      by_cases hj : j = x.1
      ·subst hj
       have : x.1 < listed.size := by rw [hL.sz]; exact hilt
       simp [Array.getD, this]
      ·rw [if_neg hj]; exact getD_set_ne d (fun e => hj e.symm)
     refine ⟨by simpa using hL.sz, fun y hy => hL.op y (hsub y hy), fun j hj => ?_, ?_, ?_, ?_⟩
     ·rw [hg]
      constructor
      ·intro hh
       split at hh
       ·simp at hh
       ·rename_i hjx
        obtain ⟨y, hy, hyj⟩ := (hL.out j hj).1 hh
        refine ⟨y, ?_, hyj⟩
        rw [hsplit] at hy
        simp at hy ⊢
        rcases hy with hy | rfl | hy
        ·exact .inl hy
        ·exact absurd hyj.symm hjx
        ·exact .inr hy
      ·rintro ⟨y, hy, rfl⟩
       rw [if_neg (hne y hy)]
       exact (hL.out y.1 hj).2 ⟨y, hsub y hy, rfl⟩
     ·have hord := hL.ord
      rw [hsplit] at hord
      simp only [List.map_append, List.map_cons, List.pairwise_append, List.pairwise_cons] at hord ⊢
      obtain ⟨o1, ⟨o2, o3⟩, o4⟩ := hord
      exact ⟨o1, o3, fun u hu v hv => o4 u hu v (by simp [hv])⟩
     ·intro j oj hj hlj e he hb
      rw [hg] at hlj ⊢
      split
      ·rfl
      ·split at hlj
       ·rename_i hjx
        subst hjx
        rw [h2] at hj; simp at hj; subst hj
        exact h3 e he hb
       ·exact hL.cl j oj hj hlj e he hb
     ·intro pre' z post' hs' y hy
      -- a split of the shorter list is a split of the longer one
      have : ∃ pre2 post2, rem = pre2 ++ z :: post2 /\ y ∈ pre2 := by
       rcases List.append_eq_append_iff.1 hs' with ⟨as, e1, e2⟩ | ⟨bs, e1, e2⟩
       · -- pre' = pre ++ as, post = as ++ z :: post'
        refine ⟨pre ++ x :: as, post', by rw [hsplit, e2]; simp, ?_⟩
        rw [e1] at hy
        simp at hy ⊢
        rcases hy with hy | hy
        ·exact .inl hy
        ·exact .inr (.inr hy)
       ·cases bs with
        | nil =>
         simp at e1 e2
         refine ⟨pre ++ [x], post', ?_, ?_⟩
         ·rw [hsplit, <- e2]; simp
         ·rw [e1]; simp [hy]
        | cons b bs =>
         simp at e2
         obtain ⟨rfl, e2⟩ := e2
         exact ⟨pre', bs ++ x :: post, by rw [hsplit, e1]; simp, hy⟩
      obtain ⟨pre2, post2, q1, q2⟩ := this
      exact hL.pr pre2 z post2 q1 y q2)
   unfold wpOp
   rw [h2]
   dsimp only
   split
   ·rename_i hw
    rw [if_pos hw] at hop
    exact .inl hop
   ·rename_i hw
    rw [if_neg hw] at hop
    exact hop
end
end Go.Bm
