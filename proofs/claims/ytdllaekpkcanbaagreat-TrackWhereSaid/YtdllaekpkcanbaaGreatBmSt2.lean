/- The abstract machine, second form: each primitive step is sound. -/
import Derived.Test.YtdllaekpkcanbaaGreatBmCallM2
set_option linter.unusedVariables false
set_option linter.unusedSimpArgs false
namespace Go.Bm
open Go.RowKit

section
variable {P : Program} {C : Cfg} {ρ : Env} {w : World} {R : Type} {Z : Base} {tm : List TV} {boxes : List (Nat × Box)} {rows : List (Nat × Row)} {tmps : Array Value}

theorem valueAt_wf' {g : Bool} {sz off : Nat} {cells : List AC} {v : TV} (hv : valueAt g sz cells off = some v) (hb : ∀ a ∈ cells, AC.wf boxes rows a) : TV.wf boxes rows v := by
 unfold valueAt at hv
 cases g
 ·simp only [cond_false] at hv
  split at hv
  ·rename_i c hc
   simp at hv; subst hv
   intro c' hc'; simp at hc'; subst hc'
   exact hb _ (List.mem_of_getElem? hc)
  ·simp at hv
 ·simp only [cond_true] at hv
  cases hbb : Nat.ble (off + sz) cells.length <;> rw [hbb] at hv
  ·simp at hv
  ·simp at hv; subst hv
   intro c hc
   exact hb c (List.mem_of_mem_drop (List.mem_of_mem_take hc))

theorem res_noOwn {a a' : TV} (hno : a.hasOwn = false) (hr : a.res rows = some a') : a = a' := by
 have hl : ∀ (cs cs' : List AC), cs.any AC.isOwn = false -> resL rows cs = some cs' -> cs = cs' := by
  intro cs
  induction cs with
  | nil => intro cs' _ h; simp [resL] at h; rw [h]
  | cons b cs ih =>
   intro cs' hno h
   simp only [List.any_cons, Bool.or_eq_false_iff] at hno
   simp only [resL] at h
   split at h
   ·rename_i b' hb'
    split at h
    ·rename_i l' hl'
     simp at h; subst h
     rw [ih _ hno.2 hl']
     have h1 := hno.1
     cases b <;> simp only [AC.res] at hb' <;> first | (simp at hb'; done) | (simp [AC.isOwn] at h1; done) | (simp at hb'; subst hb'; rfl)
    ·simp at h
   ·simp at h
 cases a with
 | dead => simp [TV.res] at hr
 | tup => simp [TV.res] at hr
 | v g cs =>
  simp only [TV.res] at hr
  split at hr
  ·rename_i l h; simp at hr; subst hr; rw [hl _ _ hno h]
  ·simp at hr

theorem run_make_all {t e : TypeId} {i : TypeInfo} {z : Value} (ht : P.underlying t = some (.slice e)) (hi : P.info? e = some i) (hz : i.zero = some z) {kl kc : IntKind} {n : Nat} (hb : n * i.bytes <= 140737488355328) (hn : n <= 140737488355328) :
  ∃ (w' : World) (arr : Array Value), (Instr.makeSlice t (.int kl (n : Int)) (.int kc (n : Int))).run P w = .ok (.slice (some ⟨w.heap.size, 0, none⟩) n n) w' /\ w' = w.alloc (.cells arr e) /\
   arr.toList = (List.range (n * i.size)).map fun j => z.cells[j % z.cells.size]! := by
 have e1 : ((n * i.bytes : Nat) : Int) = (n : Int) * (i.bytes : Int) := Int.natCast_mul _ _
 have e2 : (i.bytes : Int) * (n : Int) <= 281474976710656 := by rw [Int.mul_comm]; omega
 have h := run_make w t e i z ht hi hz kl kc (n : Int) (n : Int) (by omega) (Int.le_refl _) e2 (by omega)
 rw [Int.toNat_natCast] at h
 exact ⟨_, madeCells z.cells (n * i.size), h, rfl, by simp [madeCells]⟩

theorem memK_sound0 (hspec : SpecOK P C) (hR : RelE Z tm boxes rows ρ tmps w) {o : Oper} {a : Act} {p : Prim} (hp : PrimRun P ρ w a.eval o p) (hwf : Prim.wf boxes rows p) (hna : Prim.isApp (some p) = false) {K : TV -> St -> Option R} {r : R}
  (h : memK C o.dst p ⟨tm, boxes, rows⟩ K = some r) {next : Act -> World -> Prop} {Q : Exit -> Act -> World -> Prop}
  (hnext : ∀ (v : TV) (tm' : List TV) (boxes' : List (Nat × Box)) (rows' : List (Nat × Row)) (ρ' : Env) (x : Value) (w' : World), K v ⟨tm', boxes', rows'⟩ = some r -> RelE Z tm' boxes' rows' ρ' tmps w' -> TVR ρ' w' v x -> TV.wf boxes' rows' v -> next (a.put o.dst x) w') :
  o.wp P a w next Q := by
 cases p with
 | val v =>
  obtain ⟨x, h1, h2⟩ := hp
  exact val_wp h1 (hnext v _ _ _ ρ x w h hR h2 hwf)
 | load g sz key off =>
  obtain ⟨t, h1, h2, h3⟩ := hp
  simp only [memK] at h
  split at h
  ·rename_i b hk
   split at h
   ·rename_i v hv
    obtain ⟨arr, q1, q2, q3⟩ := hR.bx key b hk
    obtain ⟨x, q4, q5⟩ := run_loadVar_read (b := ρ.bx key) (o := 0) h1 h2 hv q2 (fun j y hj => by
     simp only [Nat.zero_add]
     rw [cell_of_row w _ j arr b.ty (0, 0) q1]
     simpa using hj)
    rw [Nat.zero_add] at q4
    rw [q4] at h3
    refine val_wp h3 (hnext v _ _ _ ρ x w h hR q5 ?_)
    have hb := hR.wb key b hk
    unfold valueAt at hv
    cases g
    ·simp only [cond_false] at hv
     split at hv
     ·rename_i c hc
      simp at hv; subst hv
      intro c' hc'; simp at hc'; subst hc'
      exact hb _ (List.mem_of_getElem? hc)
     ·simp at hv
    ·simp only [cond_true] at hv
     cases hbb : Nat.ble (off + sz) b.cells.length <;> rw [hbb] at hv
     ·simp at hv
     ·simp at hv; subst hv
      intro c hc
      exact hb c (List.mem_of_mem_drop (List.mem_of_mem_take hc))
   ·simp at h
  ·simp at h
 | store key off cs =>
  obtain ⟨t, x, h1, h2, h3⟩ := hp
  simp only [memK] at h
  split at h
  ·rename_i b hk
   cases hb : Nat.ble (off + cs.length) b.cells.length <;> rw [hb] at h
   ·simp at h
   ·simp only [cond_true, forceL_eq] at h
    have hle := Nat.le_of_ble_eq_true hb
    obtain ⟨arr, q1, q2, q3⟩ := hR.bx key b hk
    have hlen := h2.length
    rw [hlen] at h1 hle
    have q4 := run_storeVar h1 q1 (by rw [<- Array.length_toList, <- q2.length]; exact hle) h2.one
    rw [q4] at h3
    refine skip_wp h3 (hnext .dead _ _ _ ρ undef _ h (hR.store hk ?_ ?_) trivial trivial)
    ·intro c hc
     rw [splice_eq _ _ _ (by rw [hlen]; exact hle)] at hc
     simp only [List.mem_append] at hc
     rcases hc with (hc | hc) | hc
     ·exact hR.wb key b hk c (List.mem_of_mem_take hc)
     ·exact hwf.2 c hc
     ·exact hR.wb key b hk c (List.mem_of_mem_drop hc)
    ·exact q2.splice off h2
  ·simp at h
 | new ty cs =>
  obtain ⟨arr, h1, h2⟩ := hp
  simp only [memK] at h
  split at h
  ·rename_i d hd
   split at h
   ·simp at h
   ·rename_i hn
    simp only [forceL_eq] at h
    refine val_wp h2 (hnext _ _ _ _ _ _ _ h (hR.new hn hwf h1) ?_ ?_)
    ·refine TVR.c' ?_
     simp only [CC, upN_same]
    ·intro c hc
     simp at hc; subst hc
     exact ⟨_, look_ins_same _ _ _ hn⟩
  ·simp at h
 | rload g sz id idx sub =>
  obtain ⟨t, b, h1, h2, hb, h3⟩ := hp
  obtain ⟨r0, hr0, hlt⟩ := hwf
  simp only [memK, hr0] at h
  split at h
  ·rename_i v hv
   obtain ⟨q1, q2, _, xs, q3, q4⟩ := hR.ro id r0 hr0
   have hget : r0.l[idx]? = some r0.l[idx] := List.getElem?_eq_getElem hlt
   have hcl := q4.2.2 idx _ hget
   have hf : r0.f idx = r0.l[idx] := by
    show canonL r0.ks (nth [] r0.l idx) = _
    rw [nth_eq, List.getD, hget]
    exact q4.2.1 _ (List.getElem_mem hlt)
   have hrd : ReadAt w b (idx * r0.w) (cut xs (idx * r0.w) r0.w) := by
    intro j y hj
    simp only [cut, List.getElem?_take] at hj
    split at hj
    ·rw [List.getElem?_drop] at hj
     have := q3.cells hb (idx * r0.w + j) y hj
     rw [Addr.add_lit] at this
     simpa using this
    ·simp at hj
   rw [hf] at hv
   obtain ⟨x, q5, q6⟩ := run_loadVar_read (b := b) (o := idx * r0.w) (ρ := ρ) h1 h2 hv (hcl.mono fun _ _ _ hh => CC_of_CP hh) hrd
   rw [<- q2] at q5
   rw [q5] at h3
   exact val_wp h3 (hnext v _ _ _ ρ x w h hR q6 (valueAt_wf' hv (CL_wf hcl)))
  ·simp at h
 | rstore id idx sub cs =>
  obtain ⟨t, x, b, h1, h2, hb, h3⟩ := hp
  obtain ⟨r0, hr0, hlt⟩ := hwf
  simp only [memK, hr0] at h
  cases hc : (Nat.ble (sub + cs.length) r0.w && allB AC.plain cs) <;> rw [hc] at h
  ·simp at h
  ·simp only [cond_true] at h
   split at h
   ·rename_i c hfit
    simp only [forceL_eq] at h
    simp only [Bool.and_eq_true] at hc
    have hle := Nat.le_of_ble_eq_true hc.1
    obtain ⟨q1, q2, _, xs, q3, q4⟩ := hR.ro id r0 hr0
    have hget : r0.l[idx]? = some r0.l[idx] := List.getElem?_eq_getElem hlt
    have hf : r0.f idx = r0.l[idx] := by
     show canonL r0.ks (nth [] r0.l idx) = _
     rw [nth_eq, List.getD, hget]
     exact q4.2.1 _ (List.getElem_mem hlt)
    rw [hf] at hfit
    rcases q3.2 with ⟨e1, e2⟩ | ⟨g', cap, cur, e1, e2, e3, e4, e5, e6, e7⟩
    ·have : idx < r0.n := hlt
     omega
    ·have hbg : b = g' := by rw [e1] at hb; simp [Value.ownBlock] at hb; exact hb.symm
     subst hbg
     have hlen := h2.length
     have hxs := q4.1
     have hbound : idx * r0.w + sub + cs.length <= r0.n * r0.w := by
      have : idx * r0.w + r0.w <= r0.n * r0.w := by
       calc idx * r0.w + r0.w = (idx + 1) * r0.w := by rw [Nat.add_mul, Nat.one_mul]
        _ <= r0.n * r0.w := Nat.mul_le_mul_right _ hlt
      omega
     have hcapb : r0.n * r0.w <= cap * r0.w := Nat.mul_le_mul_right _ e4
     rw [q2] at h3
     rw [hlen] at h1 hle hbound
     have q5 := run_storeVar (off := idx * r0.w + sub) h1 e3 (by rw [e6]; omega) h2.one
     rw [q5] at h3
     have hcurlen : cur.toList.length = cap * r0.w := by rw [Array.length_toList]; exact e6
     have htk : (splice cur.toList (idx * r0.w + sub) x.cells.toList).take (r0.n * r0.w) = splice xs (idx * r0.w + sub) x.cells.toList := by
      rw [splice_eq _ _ _ (by omega), splice_eq _ _ _ (by rw [hxs]; exact hbound), <- e7]
      apply List.ext_getElem?
      intro j
      simp only [List.getElem?_take, List.getElem?_append, List.length_take, List.length_append, List.getElem?_drop]
      by_cases hj : j < r0.n * r0.w
      ·rw [if_pos hj]
       by_cases j1 : j < idx * r0.w + sub
       ·rw [if_pos (by omega), if_pos (by omega), if_pos (by omega), if_pos (by omega), if_pos (by omega), if_pos (by omega), if_pos hj]
       ·by_cases j2 : j < idx * r0.w + sub + x.cells.toList.length
        ·rw [if_pos (by omega), if_neg (by omega), if_pos (by omega), if_neg (by omega)]
         congr 1; omega
        ·rw [if_neg (by omega), if_neg (by omega), if_pos (by omega)]
         congr 1; omega
      ·rw [if_neg hj, if_neg (by omega), if_neg (by omega)]
     have hng : ¬ ρ.im b := fun hi => (hR.ib b hi).2.2 id r0 hr0 hb
     have hold : ∀ k, k ≠ b -> (w.setRow b (splice cur.toList (idx * r0.w + sub) x.cells.toList).toArray).heap[k]? = w.heap[k]? := fun k hk => setRow_other w b k _ hk
     have hmono : ∀ (a : AC) (y : Value), CP ρ.im w a y -> CP ρ.im (w.setRow b (splice cur.toList (idx * r0.w + sub) x.cells.toList).toArray) a y := fun a y hh => CP.mono (fun _ h => h) (fun k hk => hold k (fun e => hng (e ▸ hk))) a y hh
     have hnew : CL (CP ρ.im w) c (splice (cut xs (idx * r0.w) r0.w) sub x.cells.toList) /\ canonL r0.ks c = c :=
      fitL_CP hfit (((q4.2.2 idx _ hget).mono fun _ _ _ hh => CC_of_CP hh).splice sub h2)
     have hturn := hR.turnRow (id := id) hr0 (r' := ⟨r0.ty, r0.ks, r0.l.set idx c⟩) (v' := ρ.rv id)
      (xs := splice xs (idx * r0.w + sub) x.cells.toList) (w' := w.setRow b (splice cur.toList (idx * r0.w + sub) x.cells.toList).toArray)
      ⟨rfl, rfl, rfl, by simp, fun k _ hk => hold k (fun e => hk (by rw [e, hb]))⟩ rfl
      ⟨by simp only [Row.n, Row.w, List.length_set]; rw [splice_length]; exact hxs, .inr ⟨b, cap, _, by simp only [Row.n, List.length_set]; exact e1, e2, setRow_heap w b cur _ r0.ty _ e3, by simp only [Row.n, List.length_set]; exact e4, e5, by simp only [List.size_toArray]; rw [splice_length]; exact hcurlen, by simp only [Row.n, List.length_set]; exact htk⟩⟩
      ⟨by simp only [List.length_set]; rw [splice_length]; exact hxs, fun c' hc' => by
       rcases List.mem_or_eq_of_mem_set hc' with hc' | rfl
       ·exact q4.2.1 c' hc'
       ·exact hnew.2, fun i c' hi => by
       simp only [List.getElem?_set] at hi
       by_cases hii : idx = i
       ·subst hii
        rw [if_pos rfl, if_pos hlt] at hi
        simp at hi; subst hi
        have e := cut_splice_same xs x.cells.toList idx r0.w sub r0.n hlt hxs (by omega)
        show CL _ c (cut _ (idx * r0.w) r0.w)
        rw [e]
        exact hnew.1.mono fun a _ y hh => hmono a y hh
       ·rw [if_neg hii] at hi
        have hin : i < r0.n := (List.getElem?_eq_some_iff.1 hi).1
        have e := cut_splice_other xs x.cells.toList idx i r0.w sub r0.n hlt (fun e => hii e.symm) hxs (by omega)
        show CL _ c' (cut _ (i * r0.w) r0.w)
        rw [e]
        exact (q4.2.2 i c' hi).mono fun a _ y hh => hmono a y hh⟩
      (.inl rfl) (.inl ⟨rfl, by simp [Row.n]⟩)
     exact skip_wp h3 (hnext .dead _ _ _ _ undef _ h hturn trivial trivial)
   ·simp at h
 | newRow el ks l =>
  obtain ⟨arr, h1, h2, h3, h4⟩ := hp
  simp only [memK] at h
  split at h
  ·rename_i d hd
   split at h
   ·simp at h
   ·rename_i hn
    simp only [forceL_eq] at h
    have hb : Below w.heap.size w (w.alloc (.cells arr el)) := (Below.refl _ _).alloc (Nat.le_refl _) _
    have hrow : RowC ρ.im (w.alloc (.cells arr el)) ks l arr.toList := h3.mono (fun _ h => h) (fun b hb' => Below.heap_alloc w _ b (hR.ib b hb').1)
    have hadd := hR.addRow (d := C.rowAs d) hn (r := ⟨el, ks, l⟩) (v' := .slice (some ⟨w.heap.size, 0, none⟩) l.length l.length) (xs := arr.toList) (w' := w.alloc (.cells arr el)) hb h1
     ⟨h3.1, .inr ⟨w.heap.size, l.length, arr, rfl, Nat.zero_le _, heap_alloc_new w _, Nat.le_refl _, h2, by rw [<- Array.length_toList]; exact h3.1, by
      show List.take (l.length * ks.length) _ = _
      rw [<- h3.1, List.take_length]⟩⟩ hrow
     (fun g hg => by simp [Value.ownBlock] at hg; omega)
    refine val_wp h4 (hnext _ _ _ _ _ _ _ h hadd ?_ ?_)
    ·exact TVR.c' ⟨by simp only [upN_same], by simp only [upN_same], .inr ⟨_, _, rfl⟩⟩
    ·intro c hc
     simp at hc; subst hc
     exact ⟨_, look_ins_same _ _ _ hn, rfl, rfl⟩
  ·simp at h
 | newView el ks l =>
  obtain ⟨arr, h1, h2, h3, h4⟩ := hp
  simp only [memK] at h
  have hb : Below w.heap.size w (w.alloc (.cells arr el)) := (Below.refl _ _).alloc (Nat.le_refl _) _
  have hrow : RowC ρ.im (w.alloc (.cells arr el)) ks l arr.toList := h3.mono (fun _ h => h) (fun b hb' => Below.heap_alloc w _ b (hR.ib b hb').1)
  have hg := hR.growIm (im' := fun b => ρ.im b \/ b = w.heap.size) hb (fun b h => .inl h) (fun b h => h.imp id fun e => by subst e; exact ⟨Nat.le_refl _, lt_of_heap (heap_alloc_new w _)⟩)
  refine val_wp h4 (hnext _ _ _ _ _ _ _ h hg ?_ ?_)
  ·refine TVR.c' ?_
   have hown : (w.alloc (.cells arr el)).ownsRow 0 el ks.length (.slice (some ⟨w.heap.size, 0, none⟩) l.length l.length) l.length arr.toList :=
    ⟨h3.1, .inr ⟨w.heap.size, l.length, arr, rfl, Nat.zero_le _, heap_alloc_new w _, Nat.le_refl _, h2, by rw [<- Array.length_toList]; exact h3.1, by rw [<- h3.1, List.take_length]⟩⟩
   exact CC_of_CP (view_of_row hown (hrow.mono (fun _ h => .inl h) (fun _ _ => rfl)) (fun g hg => .inr (by simp [Value.ownBlock] at hg; exact hg.symm)))
  ·intro c hc
   simp at hc; subst hc
   trivial
 | make el ks bytes n z =>
  obtain ⟨t, i, zv, kl, kc, h1, h2, h3, h4, h5, h6, h7, h8, h9, h10⟩ := hp
  subst h5
  simp only [memK] at h
  split at h
  ·rename_i d hd
   split at h
   ·simp at h
   ·rename_i hn
    cases hc : (decide (0 <= n) && decide (n * (i.bytes : Int) <= 140737488355328)) <;> rw [hc] at h
    ·simp at h
    ·simp only [cond_true, forceL_eq] at h
     simp only [Bool.and_eq_true, decide_eq_true_eq] at hc
     have hn0 : ((n.toNat : Nat) : Int) = n := Int.toNat_of_nonneg hc.1
     have hzl : zv.cells.toList.length = ks.length := by
      rw [<- h9.length, <- h8]; exact canonL_length _ _
     have hb1 : n.toNat * i.bytes <= 140737488355328 := by
      have h2 := hc.2
      rw [<- hn0] at h2
      have e1 : ((n.toNat * i.bytes : Nat) : Int) = (n.toNat : Int) * (i.bytes : Int) := Int.natCast_mul _ _
      omega
     have hnm : n.toNat <= n.toNat * i.bytes := Nat.le_mul_of_pos_right _ h7
     obtain ⟨w', arr, p1, p2, p3⟩ := run_make_all (P := P) (w := w) (t := t) (e := el) (i := i) (z := zv) h1 h2 h3 (kl := kl) (kc := kc) (n := n.toNat) hb1 (by omega)
     rw [hn0] at p1
     rw [p1] at h10
     subst p2
     have hsz : zv.cells.size = ks.length := by rw [<- Array.length_toList]; exact hzl
     have hal : arr.toList.length = n.toNat * ks.length := by rw [p3, h4, hsz]; simp [hsz]
     have hcut : ∀ j, j < n.toNat -> cut arr.toList (j * ks.length) ks.length = zv.cells.toList := by
      intro j hj
      have hle : j * ks.length + ks.length <= n.toNat * ks.length := by
       calc j * ks.length + ks.length = (j + 1) * ks.length := by rw [Nat.add_mul, Nat.one_mul]
        _ <= n.toNat * ks.length := Nat.mul_le_mul_right _ hj
      apply List.ext_getElem?
      intro q
      simp only [cut, List.getElem?_take, List.getElem?_drop]
      by_cases hq : q < ks.length
      ·rw [if_pos hq, p3, h4, hsz]
       rw [List.getElem?_map, List.getElem?_range (by omega)]
       simp only [Option.map_some]
       rw [show (j * ks.length + q) % ks.length = q from by rw [Nat.mul_comm, Nat.mul_add_mod]; exact Nat.mod_eq_of_lt hq]
       have : q < zv.cells.size := by rw [hsz]; exact hq
       rw [getElem!_pos zv.cells q this, Array.getElem?_toList, Array.getElem?_eq_getElem this]
      ·rw [if_neg hq, List.getElem?_eq_none (by rw [hzl]; omega)]
     have hb : Below w.heap.size w (w.alloc (.cells arr el)) := (Below.refl _ _).alloc (Nat.le_refl _) _
     have hrow0 : RowC ρ.im w ks (List.replicate n.toNat z) arr.toList := by
      refine ⟨by rw [hal]; simp, fun c hc => ?_, fun j c hj => ?_⟩
      ·rw [List.mem_replicate] at hc; rw [hc.2]; exact h8
      ·rw [List.getElem?_replicate] at hj
       split at hj
       ·rename_i hjl
        simp at hj; subst hj
        rw [hcut j hjl]; exact h9
       ·simp at hj
     have hrow : RowC ρ.im (w.alloc (.cells arr el)) ks (List.replicate n.toNat z) arr.toList := hrow0.mono (fun _ h => h) (fun b hb' => Below.heap_alloc w _ b (hR.ib b hb').1)
     have hlr : (List.replicate n.toNat z).length = n.toNat := by simp
     have hadd := hR.addRow (d := d) hn (r := ⟨el, ks, List.replicate n.toNat z⟩) (v' := .slice (some ⟨w.heap.size, 0, none⟩) n.toNat n.toNat) (xs := arr.toList) (w' := w.alloc (.cells arr el)) hb h6
      ⟨by simp only [Row.n, Row.w, hlr]; exact hal, .inr ⟨w.heap.size, n.toNat, arr, by simp only [Row.n, hlr], Nat.zero_le _, heap_alloc_new w _, by simp only [Row.n, hlr]; exact Nat.le_refl _, by simp only [maxLen]; omega, by rw [<- Array.length_toList]; exact hal, by
       simp only [Row.n, hlr]
       show List.take (n.toNat * ks.length) _ = _
       rw [<- hal, List.take_length]⟩⟩ hrow
      (fun g hg => by simp [Value.ownBlock] at hg; omega)
     refine val_wp h10 (hnext _ _ _ _ _ _ _ h hadd ?_ ?_)
     ·exact TVR.c' ⟨by simp only [upN_same], by simp only [upN_same], .inr ⟨_, _, by rw [hlr]⟩⟩
     ·intro c hc
      simp at hc; subst hc
      exact ⟨_, look_ins_same _ _ _ hn, by simp [Row.n], rfl⟩
  ·simp at h
 | append e ks bytes s x =>
  obtain ⟨t, ty, i, z, sv, xv, h1, h2, h3, h4, h5, h6, h7, h8, h9⟩ := hp
  subst h5
  simp only [memK] at h
  split at h
  ·rename_i m hsrc
   obtain ⟨ad, c, news, rfl, hrow, hnews⟩ := source_sound hR hsrc h8
   split at h
   · -- onto nil
    split at h
    ·rename_i d hd
     split at h
     ·simp at h
     ·rename_i hn
      cases hb : (Nat.ble 1 ks.length && Nat.ble 1 i.bytes) <;> rw [hb] at h
      ·simp at h
      ·simp only [cond_true] at h
       simp only [Bool.and_eq_true] at hb
       have hw1 := Nat.le_of_ble_eq_true hb.1
       have hby := Nat.le_of_ble_eq_true hb.2
       cases hbb : Nat.ble (m.length * i.bytes) 140737488355328 <;> rw [hbb] at h
       ·simp at h
       ·simp only [cond_true, forceL_eq] at h
        have hbound := Nat.le_of_ble_eq_true hbb
        have hm : m.length <= m.length * i.bytes := Nat.le_mul_of_pos_right _ (by omega)
        simp only [CC, CP] at h7
        subst h7
        obtain ⟨v', w', q1, q2, q3, q4⟩ := run_append_any' (P := P) (ty := ty) (c := c) h1 h2 h3 h4 h6 (by omega) (World.ownsRow_nil w 0 e ks.length) hrow.1 hnews (hrow.one (by omega)) (by simp only [maxLen]; omega) (by simpa using hbound) (Nat.zero_le _)
        rw [q1] at h9
        simp only [Nat.zero_add, List.nil_append] at q2
        have hbel : Below w.heap.size w w' := ⟨q3.os, q3.tape, q3.output, q3.size, fun k hk => q3.block k hk (by simp [Value.ownBlock])⟩
        have hadd := hR.addRow (d := d) hn (r := ⟨e, ks, m⟩) (v' := v') (xs := news) (w' := w') hbel (by show 0 < ks.length; omega) q2
         (hrow.mono (fun _ h => h) (fun b hb' => hbel.block b (hR.ib b hb').1)) (fun g' hg' => by
          rcases q4 with q4 | q4
          ·rw [q4] at hg'; simp [Value.ownBlock] at hg'
          ·rw [q4] at hg'; simp at hg'; omega)
        refine val_wp h9 (hnext _ _ _ _ _ _ _ h hadd ?_ ?_)
        ·refine TVR.c' ⟨by simp only [upN_same], by simp only [upN_same], ?_⟩
         rcases q2.2 with ⟨e1, e2⟩ | ⟨g', cap, cur, e1, _⟩
         ·exact .inl ⟨e1, e2⟩
         ·exact .inr ⟨g', cap, e1⟩
        ·intro c hc
         simp at hc; subst hc
         exact ⟨_, look_ins_same _ _ _ hn, rfl, rfl⟩
    ·simp at h
   · -- onto a row of the call's own
    rename_i id w1 n1
    split at h
    ·rename_i r0 hr0
     cases hb : (kdsEq ks r0.ks && Nat.beq r0.ty e && Nat.ble 1 i.bytes) <;> rw [hb] at h
     ·simp at h
     ·simp only [cond_true] at h
      simp only [Bool.and_eq_true] at hb
      have e1 := kdsEq_eq hb.1.1
      have e2 := Nat.eq_of_beq_eq_true hb.1.2
      have hby := Nat.le_of_ble_eq_true hb.2
      subst e1 e2
      cases hbb : Nat.ble ((r0.l ++ m).length * i.bytes) 140737488355328 <;> rw [hbb] at h
      ·simp at h
      ·simp only [cond_true, forceL_eq] at h
       have hbound := Nat.le_of_ble_eq_true hbb
       rw [List.length_append] at hbound
       have hm : r0.l.length + m.length <= (r0.l.length + m.length) * i.bytes := Nat.le_mul_of_pos_right _ (by omega)
       obtain ⟨q1, q2, _, xs, q3, q4⟩ := hR.ro id r0 hr0
       obtain ⟨c1, c2, c3⟩ := h7
       subst c1
       obtain ⟨v', w', p1, p2, p3, p4⟩ := run_append_any' (P := P) (ty := ty) (c := c) h1 h2 h3 h4 h6 q1 q3 hrow.1 hnews (hrow.one q1) (by simp only [maxLen, Row.n]; omega) hbound (Nat.zero_le _)
       rw [p1] at h9
       have hRk := hR.kill id
       have himb : ∀ b, ρ.im b -> w'.heap[b]? = w.heap[b]? := fun b hb' => p3.block b (hR.ib b hb').1 (fun e => (hR.ib b hb').2.2 id r0 hr0 e.symm)
       have happ := (q4.append hrow).mono (fun _ h => h) himb
       have hturn := hRk.turnRow (id := id) hr0 (r' := ⟨r0.ty, r0.ks, r0.l ++ m⟩) (v' := v') (xs := xs ++ news) (w' := w') p3 rfl (by simpa [Row.n] using p2) happ
        (orMap p4 (fun x => x) (fun x g' hg' => by rw [x] at hg'; simp at hg'; omega))
        (.inr ⟨fun v hv => by
         simp only [List.mem_map] at hv
         obtain ⟨u, _, rfl⟩ := hv
         exact TV.kill_free id u, fun k b hk a' ha' => by
         rw [look_map] at hk
         cases hl : look boxes k with
         | none => rw [hl] at hk; simp at hk
         | some b' =>
          rw [hl] at hk; simp at hk; subst hk
          simp only [Box.kill, List.mem_map] at ha'
          obtain ⟨u, _, rfl⟩ := ha'
          exact AC.kill_free id u⟩)
       refine val_wp h9 (hnext _ _ _ _ _ _ _ h hturn ?_ ?_)
       ·refine TVR.c' ⟨by simp only [upN_same], by simpa using q2, ?_⟩
        rcases p2.2 with ⟨e1, e2⟩ | ⟨g', cap, cur, e1, _⟩
        ·exact .inl ⟨e1, by simpa [Row.n] using e2⟩
        ·exact .inr ⟨g', cap, by simpa [Row.n] using e1⟩
       ·intro c hc
        simp at hc; subst hc
        exact ⟨_, look_upd_same _ _ _ _ hr0, by simp [Row.n], rfl⟩
    ·simp at h
   ·simp at h
  ·simp at h
 | call f args =>
  obtain ⟨xs, h1, h2, h3⟩ := hp
  simp only [memK] at h
  split at h
  ·rename_i g hg
   split at h
   ·rename_i as has
    obtain ⟨hal, hag⟩ := resArgs_get has
    have hsp := hspec f g hg
    obtain ⟨v, mem', hv, hpc⟩ := hsp.run h
    split at hv
    ·cases hb0 : ((!(args.any TV.hasOwn) || v.flat) && v.plainB) <;> rw [hb0] at hv
     ·simp at hv
     ·simp only [cond_true] at hv
      simp only [Bool.and_eq_true] at hb0
      -- the callee begins without memory; the rows that it is shown are not written
      let im2 : Nat -> Prop := fun b => ρ.im b \/ (args.any TV.hasOwn = true /\ ∃ id r0, look rows id = some r0 /\ (ρ.rv id).ownBlock = some b)
      have himl : ∀ b, im2 b -> b < w.heap.size := by
       rintro b (hb' | ⟨_, id, r0, hr0, hb'⟩)
       ·exact (hR.ib b hb').1
       ·exact (hR.rwlt hr0 hb').2
      have hown : ∀ (i : Nat) (a0 : TV), args[i]? = some a0 -> args.any TV.hasOwn = false -> a0.hasOwn = false := by
       intro i a0 ha0 hno
       cases hh : a0.hasOwn
       ·rfl
       ·exact absurd (List.any_eq_true.2 ⟨a0, List.mem_of_getElem? ha0, hh⟩) (by rw [hno]; simp)
      have harg : ∀ (i : Nat) (a' : TV) (x : Value), as[i]? = some a' -> xs[i]? = some x -> TVR { ρ with im := im2 } w a' x := by
       intro i a' x ha' hx
       obtain ⟨_, a0, ha0, hr0⟩ := hag i a' ha'
       have hcp0 : ∀ (a : AC) (y : Value), CP ρ.im w a y -> CP im2 w a y := fun a y hh => CP.mono (fun _ h => .inl h) (fun _ _ => rfl) a y hh
       cases hany : args.any TV.hasOwn
       ·have hno := hown i a0 ha0 hany
        have hpl : a0 = a' := res_noOwn hno hr0
        subst hpl
        exact TVR_plain (hag i a0 ha').1 (fun a y _ hh => hcp0 a y hh) (h2 i a0 x ha0 hx)
       ·refine res_TVR (boxes := boxes) ?_ hr0 (hwf a0 (List.mem_of_getElem? ha0)) (h2 i a0 x ha0 hx)
        intro b b' y hb' hy hwb
        cases b <;> simp only [AC.res] at hb' <;> try (simp at hb'; done)
        case own id w1 n1 =>
         split at hb'
         ·rename_i r0 hr0'
          simp at hb'; subst hb'
          obtain ⟨q1, q2, _, ys, q3, q4⟩ := hR.ro id r0 hr0'
          obtain ⟨c1, c2, c3⟩ := hy
          subst c1
          exact view_of_row q3 (q4.mono (fun _ h => .inl h) (fun _ _ => rfl)) (fun g hg => .inr ⟨hany, id, r0, hr0', hg⟩)
         ·simp at hb'
        all_goals
         simp at hb'; subst hb'
         exact hcp0 _ _ hy
      have hbase : RelE (baseOf (fun b => b < w.heap.size) w { ρ with im := im2 } []) as [] [] { ρ with im := im2 } xs.toArray w := by
       refine ⟨by simp [hal, h1], fun i a hi => ?_, fun a ha => ?_, fun k b hk => by simp [look] at hk, fun k b hk => by simp [look] at hk, fun k k' b b' hk => by simp [look] at hk, fun id r hr => by simp [look] at hr,
        fun id id' r r' g hr => by simp [look] at hr, fun k b id r hk => by simp [look] at hk, fun b hb => ⟨himl b hb, fun k bo hk => by simp [look] at hk, fun id r hr => by simp [look] at hr⟩, Fr.refl _ _, fun _ h => h, fun _ h => h, fun b h => .inl h, fun k b hk => by simp [baseOf, look] at hk⟩
       ·have hil : i < xs.length := by rw [h1, <- hal]; exact (List.getElem?_eq_some_iff.1 hi).1
        have e : xs.toArray.getD i undef = xs[i] := by simp [Array.getD, hil]
        rw [e]
        exact harg i a _ hi (List.getElem?_eq_getElem hil)
       ·obtain ⟨i, hi⟩ := List.getElem?_of_mem ha
        exact plainB_wf (hag i a hi).1
      refine callx_wp h3 ((hpc _ w _ xs hbase).mono ?_)
      rintro e w' ⟨x, ρ', he, hR2⟩
      have hbel : Below w.heap.size w w' := ⟨hR2.fr.os, hR2.fr.tape, hR2.fr.output, hR2.fr.size, fun k hk => hR2.fr.block k hk⟩
      have htv : TVR ρ' w' v x := by simpa using hR2.tv 0 v rfl
      by_cases hany : args.any TV.hasOwn = true
      ·have hflat : v.flat = true := by have := hb0.1; rw [hany] at this; simpa using this
       have hR' : RelE Z tm boxes rows ρ tmps w' := hR.growIm (im' := ρ.im) hbel (fun _ h => h) (fun _ h => .inl h)
       exact ⟨x, he, hnext v _ _ _ ρ x w' hv hR' (TVR_flat hflat htv) (plainB_wf hb0.2)⟩
      ·have hR' : RelE Z tm boxes rows { ρ with im := ρ'.im } tmps w' := hR.growIm hbel (fun b hb => hR2.i0 b (.inl hb)) (fun b hb => by
        rcases hR2.i1 b hb with hb' | hb'
        ·rcases hb' with hb' | ⟨hb', _⟩
         ·exact .inl hb'
         ·exact absurd hb' hany
        ·exact .inr ⟨Nat.not_lt.1 hb', (hR2.ib b hb).1⟩)
       exact ⟨x, he, hnext v _ _ _ _ x w' hv hR' (TVR_plain (ρ := ρ') (ρ2 := { ρ with im := ρ'.im }) hb0.2 (fun _ _ _ h => h) htv) (plainB_wf hb0.2)⟩
    ·simp at hv
   ·simp at h
  ·simp at h
 | callM f args =>
  obtain ⟨xs, h1, h2, h3⟩ := hp
  exact callM_sound hspec hR h1 h2 h3 hwf h hnext
 | callD f args =>
  obtain ⟨xs, h1, h2, h3⟩ := hp
  exact callD_sound hspec hR h1 h2 h3 hwf h hnext
 | callF f args =>
  obtain ⟨xs, h1, h2, h3⟩ := hp
  exact callF_sound hspec hR h1 h2 h3 hwf h hnext
 | appD e ks bytes s x => simp [Prim.isApp] at hna
theorem memK_sound (hspec : SpecOK P C) (hR : RelE Z tm boxes rows ρ tmps w) {o : Oper} {a : Act} {p : Prim} (hp : PrimRun P ρ w a.eval o p) (hwf : Prim.wf boxes rows p) {K : TV -> St -> Option R} {r : R}
  (h : memK C o.dst p ⟨tm, boxes, rows⟩ K = some r) {next : Act -> World -> Prop} {Q : Exit -> Act -> World -> Prop}
  (hnext : ∀ (v : TV) (tm' : List TV) (boxes' : List (Nat × Box)) (rows' : List (Nat × Row)) (ρ' : Env) (x : Value) (w' : World), K v ⟨tm', boxes', rows'⟩ = some r -> RelE Z tm' boxes' rows' ρ' tmps w' -> TVR ρ' w' v x -> TV.wf boxes' rows' v -> next (a.put o.dst x) w') :
  o.wp P a w next Q := by
 cases hna : Prim.isApp (some p)
 ·exact memK_sound0 hspec hR hp hwf hna h hnext
 ·cases p <;> simp [Prim.isApp] at hna
  rename_i e ks bytes s x
  by_cases hnil : s = .nilSl
  ·subst hnil
   simp only [memK] at h
   split at h
   ·rename_i m hm
    split at h
    ·rename_i d hd
     have h' : memK C o.dst (.append e ks bytes .nilSl x) ⟨tm, boxes, rows⟩ (fun v s => K v ⟨s.tmps.map (TV.kill d), s.boxes.map fun p => (p.1, p.2.kill d), s.rows⟩) = some r := by
      simp only [memK, hm, hd]
      split at h
      ·simp at h
      ·rename_i hn
       simp only [forceL_eq] at h ⊢
       exact h
     refine memK_sound0 hspec hR (p := .append e ks bytes .nilSl x) hp hwf rfl h' ?_
     intro v tm' boxes' rows' ρ' y w' hK hR' hv hvw
     refine hnext _ _ _ _ ρ' y w' hK (hR'.kill d) hv ?_
     have hlk : ∀ k, look (boxes'.map fun p => (p.1, p.2.kill d)) k = (look boxes' k).map (Box.kill d) := fun k => look_map (Box.kill d) boxes' k
     exact TV.wf_mono (fun a => AC.wf_mono (fun k b hk => ⟨b.kill d, by rw [hlk, hk]; rfl⟩) (fun k r hk => ⟨r, hk, rfl, rfl⟩)) hvw
    ·simp at h
   ·simp at h
  ·have h' : memK C o.dst (.append e ks bytes s x) ⟨tm, boxes, rows⟩ K = some r := by
    simp only [memK] at h ⊢
    split at h
    ·split at h
     ·exact h
     ·exact absurd rfl hnil
     ·simp at h
    ·simp at h
   exact memK_sound0 hspec hR (p := .append e ks bytes s x) hp hwf rfl h' hnext
end
end Go.Bm
