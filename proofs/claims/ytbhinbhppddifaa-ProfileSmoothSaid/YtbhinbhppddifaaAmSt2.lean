/- The abstract machine: each primitive step is sound. -/
import Derived.Test.YtbhinbhppddifaaAmStep
namespace Go.Am
open Go.RowKit

section
variable {P : Program} {C : Cfg} {ρ : Env} {w w0 : World} {R : Type} {B : Nat} {I0 : Nat → Prop} {tm : List TV} {boxes : List (Nat × Box)} {rows : List (Nat × Row)} {tmps : Array Value}

theorem splice_eq {α : Type} : ∀ (l : List α) (o : Nat) (vs : List α), o + vs.length ≤ l.length → splice l o vs = l.take o ++ vs ++ l.drop (o + vs.length)
  | l, o, [], h => by simp [splice_nil]
  | [], o, _ :: _, h => by simp at h
  | x :: l, 0, v :: vs, h => by
    simp only [splice, List.take_zero, List.nil_append, List.cons_append]
    rw [splice_eq l 0 vs (by simp at h ⊢; omega)]
    simp
  | x :: l, o + 1, v :: vs, h => by
    simp only [splice]
    rw [splice_eq l o (v :: vs) (by simp at h ⊢; omega)]
    simp only [List.take_succ_cons, List.cons_append, List.length_cons]
    rw [show o + 1 + (vs.length + 1) = (o + (vs.length + 1)) + 1 from by omega, List.drop_succ_cons]

theorem run_storeVar {t : TypeId} {x : Value} {b off : Nat} {cur : Array Value} {ty : TypeId} (hs : szT P t = some x.cells.toList.length) (hb : w.heap[b]? = some (.cells cur ty (0, 0)))
    (hl : off + x.cells.toList.length ≤ cur.size) (h1 : ∀ v ∈ x.cells.toList, v.oneCell' = true) :
    (storeVar t ⟨b, off, none⟩ x).run P w = .ok () (w.setRow b (splice cur.toList off x.cells.toList).toArray) := by
  have := run_storeCells_at P b off ty x.cells.toList 0 cur w hb (by simpa using hl) h1
  simp only [Nat.add_zero] at this
  have hsz := run_sizeOf hs w
  simp only [storeVar, Sem.run_bind, hsz, Result.andThen_ok]
  rw [splice_eq _ _ _ (by simpa using hl)]
  rw [if_neg (by simp)]
  exact this

theorem cut_cut {α : Type} (l : List α) (a n o m : Nat) (h : o + m ≤ n) : cut (cut l a n) o m = cut l (a + o) m := by
  simp only [cut, List.drop_take, List.drop_drop, List.take_take]
  congr 1
  omega

theorem cut_splice_same {α : Type} (xs vs : List α) (i wd sub n : Nat) (hi : i < n) (hl : xs.length = n * wd) (hv : sub + vs.length ≤ wd) :
    cut (splice xs (i * wd + sub) vs) (i * wd) wd = splice (cut xs (i * wd) wd) sub vs := by
  have hle : i * wd + wd ≤ n * wd := by
    calc i * wd + wd = (i + 1) * wd := by rw [Nat.add_mul, Nat.one_mul]
      _ ≤ n * wd := Nat.mul_le_mul_right _ hi
  have hcl : (cut xs (i * wd) wd).length = wd := by simp [cut]; omega
  rw [splice_eq _ _ _ (by omega), splice_eq _ _ _ (by rw [hcl]; exact hv)]
  apply List.ext_getElem?
  intro j
  simp only [cut, List.getElem?_take, List.getElem?_drop, List.getElem?_append, List.length_take, List.length_append, List.length_drop]
  by_cases hj : j < wd
  · rw [if_pos hj]
    by_cases h1 : j < sub
    · rw [if_pos (by omega), if_pos (by omega), if_pos (by omega), if_pos (by omega), if_pos (by omega), if_pos h1, if_pos hj]
    · by_cases h2 : j < sub + vs.length
      · rw [if_pos (by omega), if_neg (by omega), if_pos (by omega), if_neg (by omega)]
        congr 1; omega
      · rw [if_neg (by omega), if_neg (by omega), if_pos (by omega)]
        congr 1; omega
  · rw [if_neg hj, if_neg (by omega)]
    rw [if_neg (by omega)]

theorem cut_splice_other {α : Type} (xs vs : List α) (i j wd sub n : Nat) (hi : i < n) (hij : j ≠ i) (hl : xs.length = n * wd) (hv : sub + vs.length ≤ wd) :
    cut (splice xs (i * wd + sub) vs) (j * wd) wd = cut xs (j * wd) wd := by
  have hle : i * wd + wd ≤ n * wd := by
    calc i * wd + wd = (i + 1) * wd := by rw [Nat.add_mul, Nat.one_mul]
      _ ≤ n * wd := Nat.mul_le_mul_right _ hi
  rw [splice_eq _ _ _ (by omega)]
  have hsep : j * wd + wd ≤ i * wd ∨ i * wd + wd ≤ j * wd := by
    rcases Nat.lt_or_gt_of_ne hij with h | h
    · left
      calc j * wd + wd = (j + 1) * wd := by rw [Nat.add_mul, Nat.one_mul]
        _ ≤ i * wd := Nat.mul_le_mul_right _ h
    · right
      calc i * wd + wd = (i + 1) * wd := by rw [Nat.add_mul, Nat.one_mul]
        _ ≤ j * wd := Nat.mul_le_mul_right _ h
  apply List.ext_getElem?
  intro k
  simp only [cut, List.getElem?_take, List.getElem?_drop, List.getElem?_append, List.length_take, List.length_append]
  by_cases hk : k < wd
  · rw [if_pos hk, if_pos hk]
    rcases hsep with h | h
    · rw [if_pos (by omega), if_pos (by omega), if_pos (by omega)]
    · rw [if_neg (by omega)]
      congr 1; omega
  · rw [if_neg hk, if_neg hk]

theorem call_wp {o : Oper} {a : Act} {f : FuncId} {xs : List Value} {next : Act → World → Prop} {Q : Exit → Act → World → Prop} (hc : Callable P f) (he : execOp a.eval o = callFunc f xs.toArray)
    (h : Calls P f xs.toArray w fun e w' => ∃ x, e = .returned x ∧ next (a.put o.dst x) w') : o.wp P a w next Q := by
  obtain ⟨fn, h1, h2, h3⟩ := hc
  unfold Oper.wp
  have : (execOp a.eval o).run P w = .ok (.enter f xs.toArray) w := by
    rw [he]
    simp only [callFunc, Sem.run_bind, run_program, Result.andThen_ok, h1]
    rw [if_neg (by rw [h2]; simp), if_neg (by rw [h3]; simp)]
    rfl
  rw [this, Oper.upon_enter]
  refine h.mono fun e w' ⟨x, he, hn⟩ => ?_
  subst he
  exact hn

theorem val_wp {o : Oper} {a : Act} {x : Value} {w' : World} {next : Act → World → Prop} {Q : Exit → Act → World → Prop} (he : (execOp a.eval o).run P w = .ok (.value x) w') (h : next (a.put o.dst x) w') : o.wp P a w next Q := by
  unfold Oper.wp
  rw [he]
  exact h

theorem skip_wp {o : Oper} {a : Act} {w' : World} {next : Act → World → Prop} {Q : Exit → Act → World → Prop} (he : (execOp a.eval o).run P w = .ok .skip w') (h : next (a.put o.dst undef) w') : o.wp P a w next Q := by
  unfold Oper.wp
  rw [he]
  exact h

theorem CL.one {l : List AC} {xs : List Value} (h : CL (CC ρ w) l xs) : ∀ v ∈ xs, v.oneCell' = true := by
  induction l generalizing xs with
  | nil => cases xs <;> first | (intro v hv; simp at hv; done) | exact h.elim
  | cons a l ih =>
    cases xs with
    | nil => exact h.elim
    | cons y xs =>
      intro v hv
      simp only [List.mem_cons] at hv
      rcases hv with rfl | hv
      · exact h.1.one
      · exact ih h.2 v hv

theorem CL.oneP {im : Nat → Prop} {l : List AC} {xs : List Value} (h : CL (CP im w) l xs) : ∀ v ∈ xs, v.oneCell' = true := by
  induction l generalizing xs with
  | nil => cases xs <;> first | (intro v hv; simp at hv; done) | exact h.elim
  | cons a l ih =>
    cases xs with
    | nil => exact h.elim
    | cons y xs =>
      intro v hv
      simp only [List.mem_cons] at hv
      rcases hv with rfl | hv
      · exact h.1.one
      · exact ih h.2 v hv

theorem RowC.one {im : Nat → Prop} {n wd : Nat} {f : Nat → List AC} {xs : List Value} (h : RowC im w n wd f xs) (hwd : 0 < wd) : ∀ v ∈ xs, v.oneCell' = true := by
  intro v hv
  obtain ⟨j, hj, rfl⟩ := List.getElem_of_mem hv
  have hjn : j / wd < n := by rw [Nat.div_lt_iff_lt_mul hwd]; rw [h.1] at hj; exact hj
  have hm : j % wd < wd := Nat.mod_lt _ hwd
  refine (h.2 (j / wd) hjn).oneP _ ?_
  have : (cut xs (j / wd * wd) wd)[j % wd]? = some xs[j] := by
    simp only [cut, List.getElem?_take, hm, if_true, List.getElem?_drop]
    rw [show j / wd * wd + j % wd = j from by rw [Nat.mul_comm]; exact Nat.div_add_mod j wd]
    exact List.getElem?_eq_getElem hj
  exact List.mem_of_getElem? this

theorem RowC.append {im : Nat → Prop} {n m wd : Nat} {f g : Nat → List AC} {xs ys : List Value} (h : RowC im w n wd f xs) (h' : RowC im w m wd g ys) :
    RowC im w (n + m) wd (fun i => bif Nat.blt i n then f i else g (i - n)) (xs ++ ys) := by
  refine ⟨by rw [List.length_append, h.1, h'.1, Nat.add_mul], fun i hi => ?_⟩
  by_cases hin : i < n
  · have hb : Nat.blt i n = true := by simpa using hin
    show CL (CP im w) (bif Nat.blt i n then f i else g (i - n)) _
    rw [hb]
    have hle : i * wd + wd ≤ n * wd := by
      calc i * wd + wd = (i + 1) * wd := by rw [Nat.add_mul, Nat.one_mul]
        _ ≤ n * wd := Nat.mul_le_mul_right _ hin
    have : cut (xs ++ ys) (i * wd) wd = cut xs (i * wd) wd := by
      have := h.1
      simp only [cut]
      rw [List.drop_append_of_le_length (by omega), List.take_append_of_le_length (by rw [List.length_drop]; omega)]
    rw [this]; exact h.2 i hin
  · have hb : Nat.blt i n = false := by
      cases hbb : Nat.blt i n
      · rfl
      · simp at hbb; omega
    show CL (CP im w) (bif Nat.blt i n then f i else g (i - n)) _
    rw [hb]
    have : cut (xs ++ ys) (i * wd) wd = cut ys ((i - n) * wd) wd := by
      have h1 := h.1
      simp only [cut]
      rw [List.drop_append, List.drop_eq_nil_of_le (by rw [h1]; exact Nat.mul_le_mul_right _ (by omega)), List.nil_append, h1, ← Nat.sub_mul]
    rw [this]; exact h'.2 (i - n) (by omega)

/-- append, whatever the source -/
theorem run_append_any' {t ty e : TypeId} {i : TypeInfo} {z : Value} {size : Nat} (ht : P.underlying t = some (.slice e)) (hi : P.info? e = some i) (hz : i.zero = some z)
    (hsize : i.size = size) (hzs : z.cells.size = size) (hsz : 0 < size)
    {v : Value} {n : Nat} {xs : List Value} {base : Nat} (hown : w.ownsRow base e size v n xs)
    {ad : Option Addr} {m c : Nat} {news : List Value} (hl : news.length = m * size) (hnews : m = 0 ∨ ∃ a, ad = some a ∧ ∀ j u, news[j]? = some u → w.cell? (a.add j) = some u) (h1 : ∀ u ∈ news, u.oneCell' = true)
    (h63 : n + m ≤ maxLen) (hbytes : (n + m) * i.bytes ≤ 140737488355328) (hbase : base ≤ w.heap.size) :
    ∃ v' w', (Builtin.append_ #[t, t] ty #[v, .slice ad m c]).run P w = .ok v' w' ∧ w'.ownsRow base e size v' (n + m) (xs ++ news) ∧ w.grownBy w' v.ownBlock ∧ (v'.ownBlock = v.ownBlock ∨ v'.ownBlock = some w.heap.size) := by
  cases ad with
  | some a =>
    have hn : ∀ j u, news[j]? = some u → w.cell? (a.add j) = some u := by
      rcases hnews with rfl | ⟨a', ha', hh⟩
      · have : news = [] := List.eq_nil_of_length_eq_zero (by simpa using hl)
        subst this
        intro j u h; simp at h
      · simp at ha'; subst ha'; exact hh
    obtain ⟨v', w', q1, q2, q3, _, q5⟩ := run_append_own_at (P := P) w base t ty e i z size i.bytes ht hi hz hsize rfl hzs hsz v n xs hown a m c news hl hn h1 h63 hbytes hbase
    exact ⟨v', w', q1, q2, q3, q5⟩
  | none =>
    have hm : m = 0 := by
      rcases hnews with h | ⟨_, h, _⟩
      · exact h
      · simp at h
    subst hm
    have hn : news = [] := List.eq_nil_of_length_eq_zero (by simpa using hl)
    subst hn
    refine ⟨v, w, ?_, by simpa using hown, ⟨rfl, rfl, rfl, Nat.le_refl _, fun _ _ _ => rfl⟩, .inl rfl⟩
    rcases hown.2 with ⟨rfl, rfl⟩ | ⟨g, cap, cur, rfl, _, _, hnc, _⟩
    · simp [Builtin.append_, run_underlying ht, sizeOf, typeInfo, hi, Builtin.lenOf, Builtin.firstCells]
    · simp [Builtin.append_, run_underlying ht, sizeOf, typeInfo, hi, Builtin.lenOf, Builtin.firstCells, hnc, storeCells]

/-- an append's source -/
theorem source_sound (h : RelE B w0 I0 tm boxes rows ρ tmps w) {wd : Nat} {a : AC} {x : Value} {m : Nat} {g : Nat → List AC} (hs : source rows wd a = some (m, g)) (hc : CC ρ w a x) :
    ∃ ad c news, x = .slice ad m c ∧ RowC ρ.im w m wd g news ∧ (m = 0 ∨ ∃ a, ad = some a ∧ ∀ j u, news[j]? = some u → w.cell? (a.add j) = some u) := by
  unfold source at hs
  split at hs
  · simp at hs
    obtain ⟨rfl, rfl⟩ := hs
    simp only [CC, CP] at hc
    subst hc
    exact ⟨none, 0, [], rfl, ⟨by simp, fun i hi => by omega⟩, .inl rfl⟩
  · rename_i n w' f
    cases hb : Nat.beq wd w' <;> rw [hb] at hs
    · simp at hs
    · simp at hs
      obtain ⟨rfl, rfl⟩ := hs
      have := Nat.eq_of_beq_eq_true hb; subst this
      simp only [CC, CP] at hc
      obtain ⟨ad, cap, rfl, hle, hf⟩ := hc
      rcases Nat.eq_zero_or_pos n with rfl | hn
      · exact ⟨ad, cap, [], rfl, ⟨by simp, fun i hi => by omega⟩, .inl rfl⟩
      · obtain ⟨b, o, rfl, _⟩ := hf 0 hn
        obtain ⟨ys, q1, q2⟩ := rows_read (wd := wd) (f := f) (b := b) (o := o) n fun i hi => by
          obtain ⟨b', o', e, _, h3, h4⟩ := hf i hi
          simp at e; obtain ⟨rfl, rfl⟩ := e
          exact ⟨h3, h4⟩
        refine ⟨_, cap, ys, rfl, q1, .inr ⟨_, rfl, fun j u hj => ?_⟩⟩
        rw [Addr.add_lit]; exact q2 j u hj
  · rename_i id w' n
    split at hs
    · rename_i r hr
      cases hb : Nat.beq wd r.w <;> rw [hb] at hs
      · simp at hs
      · simp at hs
        obtain ⟨rfl, rfl⟩ := hs
        have := Nat.eq_of_beq_eq_true hb; subst this
        obtain ⟨q1, q2, xs, q3, q4⟩ := h.ro id r hr
        obtain ⟨hc1, hc2, hc3⟩ := hc
        subst hc1
        rcases q3.2 with ⟨e1, e2⟩ | ⟨g', cap, cur, e1, e2, e3, e4, e5, e6, e7⟩
        · exact ⟨none, 0, xs, by rw [e1, e2], q4, .inl e2⟩
        · refine ⟨some ⟨g', 0, none⟩, cap, xs, e1, q4, .inr ⟨_, rfl, ?_⟩⟩
          exact q3.cells (g := g') (by rw [e1]; rfl)
    · simp at hs
  · simp at hs

theorem RelE.growIm {im' : Nat → Prop} {w' : World} (hR : RelE B w0 I0 tm boxes rows ρ tmps w) (hbel : Below w.heap.size w w') (him1 : ∀ b, ρ.im b → im' b) (him2 : ∀ b, im' b → ρ.im b ∨ (w.heap.size ≤ b ∧ b < w'.heap.size)) :
    RelE B w0 I0 tm boxes rows { ρ with im := im' } tmps w' := by
  have hold : ∀ b, b < w.heap.size → w'.heap[b]? = w.heap[b]? := fun b hb => hbel.block b hb
  have hcc : ∀ (a : AC) (x : Value), CC ρ w a x → CC { ρ with im := im' } w' a x := fun a x hx => CC.mono (ρ := ρ) (ρ' := { ρ with im := im' }) him1 (fun b hb => hold b (hR.ib b hb).1) a x (by cases a <;> simp [AC.agree]) hx
  refine ⟨hR.tl, fun i v hi => TVR.mono hcc v _ (hR.tv i v hi), hR.wt, hR.wb, ?_, hR.bi, ?_, hR.ri, hR.br, ?_, hR.fr.trans (hbel.mono hR.sz), Nat.le_trans hR.sz hbel.size, fun b hb => him1 b (hR.i0 b hb), fun b hb => (him2 b hb).elim (hR.i1 b) fun q => .inr (Nat.le_trans hR.sz q.1)⟩
  · intro k b hk
    obtain ⟨arr, q1, q2, q3⟩ := hR.bx k b hk
    exact ⟨arr, by rw [hold _ (lt_of_heap q1)]; exact q1, q2.mono fun a _ x hx => hcc a x hx, q3⟩
  · intro id r0 hr0
    obtain ⟨q1, q2, ys, q3, q4⟩ := hR.ro id r0 hr0
    exact ⟨q1, q2, ys, ownsRow_keep q3 fun g hg => hold g (hR.rwlt hr0 hg).2, q4.mono him1 (fun b hb => hold b (hR.ib b hb).1)⟩
  · intro b hb
    rcases him2 b hb with hb' | ⟨hb1, hb2⟩
    · obtain ⟨q1, q2, q3⟩ := hR.ib b hb'
      exact ⟨Nat.lt_of_lt_of_le q1 hbel.size, q2, q3⟩
    · exact ⟨hb2, fun k bo hk e => by have := hR.bxlt hk; have e' : ρ.bx k = b := e; omega, fun id r0 hr0 e => by have e' : (ρ.rv id).ownBlock = some b := e; have := (hR.rwlt hr0 e').2; omega⟩

theorem memK_sound (hspec : SpecOK P C) (hR : RelE B w0 I0 tm boxes rows ρ tmps w) {o : Oper} {a : Act} {p : Prim} (hp : PrimRun P ρ w a.eval o p) (hwf : Prim.wf boxes rows p) {K : TV → St → Option R} {r : R}
    (h : memK C o.dst p ⟨tm, boxes, rows⟩ K = some r) {next : Act → World → Prop} {Q : Exit → Act → World → Prop}
    (hnext : ∀ (v : TV) (tm' : List TV) (boxes' : List (Nat × Box)) (rows' : List (Nat × Row)) (ρ' : Env) (x : Value) (w' : World), K v ⟨tm', boxes', rows'⟩ = some r → RelE B w0 I0 tm' boxes' rows' ρ' tmps w' → TVR ρ' w' v x → TV.wf boxes' rows' v → next (a.put o.dst x) w') :
    o.wp P a w next Q := by
  cases p with
  | val v =>
    obtain ⟨x, h1, h2⟩ := hp
    exact val_wp h1 (hnext v _ _ _ ρ x w h hR h2 hwf)
  | load g sz key off =>
    obtain ⟨t, h1, h2, h3⟩ := hp
    simp only [memK] at h
    split at h
    · rename_i b hk
      split at h
      · rename_i v hv
        obtain ⟨arr, q1, q2, q3⟩ := hR.bx key b hk
        obtain ⟨x, q4, q5⟩ := run_loadVar_read (b := ρ.bx key) (o := 0) h1 h2 hv q2 (fun j y hj => by
          simp only [Nat.zero_add]
          rw [cell_of_row w _ j arr b.ty (0, 0) q1]
          simpa using hj)
        rw [Nat.zero_add] at q4
        rw [q4] at h3
        refine val_wp h3 (hnext v _ _ _ ρ x w h hR q5 ?_)
        have hb := hR.wb key b hk
        unfold valueAt at hv
        cases g
        · simp only [cond_false] at hv
          split at hv
          · rename_i c hc
            simp at hv; subst hv
            intro c' hc'; simp at hc'; subst hc'
            exact hb _ (List.mem_of_getElem? hc)
          · simp at hv
        · simp only [cond_true] at hv
          cases hbb : Nat.ble (off + sz) b.cells.length <;> rw [hbb] at hv
          · simp at hv
          · simp at hv; subst hv
            intro c hc
            exact hb c (List.mem_of_mem_drop (List.mem_of_mem_take hc))
      · simp at h
    · simp at h
  | store key off cs =>
    obtain ⟨t, x, h1, h2, h3⟩ := hp
    simp only [memK] at h
    split at h
    · rename_i b hk
      cases hb : Nat.ble (off + cs.length) b.cells.length <;> rw [hb] at h
      · simp at h
      · simp only [cond_true, forceL_eq] at h
        have hle := Nat.le_of_ble_eq_true hb
        obtain ⟨arr, q1, q2, q3⟩ := hR.bx key b hk
        have hlen := h2.length
        rw [hlen] at h1 hle
        have q4 := run_storeVar h1 q1 (by rw [← Array.length_toList, ← q2.length]; exact hle) h2.one
        rw [q4] at h3
        refine skip_wp h3 (hnext .dead _ _ _ ρ undef _ h (hR.store hk ?_ ?_) trivial trivial)
        · intro c hc
          rw [splice_eq _ _ _ (by rw [hlen]; exact hle)] at hc
          simp only [List.mem_append] at hc
          rcases hc with (hc | hc) | hc
          · exact hR.wb key b hk c (List.mem_of_mem_take hc)
          · exact hwf.2 c hc
          · exact hR.wb key b hk c (List.mem_of_mem_drop hc)
        · exact q2.splice off h2
    · simp at h
  | new ty cs =>
    obtain ⟨arr, h1, h2⟩ := hp
    simp only [memK] at h
    split at h
    · rename_i d hd
      split at h
      · simp at h
      · rename_i hn
        simp only [forceL_eq] at h
        refine val_wp h2 (hnext _ _ _ _ _ _ _ h (hR.new hn hwf h1) ?_ ?_)
        · refine TVR.c' ?_
          simp only [CC, upN_same]
        · intro c hc
          simp at hc; subst hc
          exact ⟨_, look_ins_same _ _ _ hn⟩
    · simp at h
  | rload g sz id idx sub =>
    obtain ⟨t, b, h1, h2, hb, h3⟩ := hp
    obtain ⟨r0, hr0, hlt⟩ := hwf
    simp only [memK, hr0] at h
    split at h
    · rename_i v hv
      obtain ⟨q1, q2, xs, q3, q4⟩ := hR.ro id r0 hr0
      have hcl := q4.2 idx hlt
      have hrd : ReadAt w b (idx * r0.w) (cut xs (idx * r0.w) r0.w) := by
        intro j y hj
        simp only [cut, List.getElem?_take] at hj
        split at hj
        · rw [List.getElem?_drop] at hj
          have := q3.cells hb (idx * r0.w + j) y hj
          rw [Addr.add_lit] at this
          simpa using this
        · simp at hj
      obtain ⟨x, q5, q6⟩ := run_loadVar_read (b := b) (o := idx * r0.w) (ρ := ρ) h1 h2 hv (hcl.mono fun _ _ _ hh => CC_of_CP hh) hrd
      rw [← q2] at q5
      rw [q5] at h3
      refine val_wp h3 (hnext v _ _ _ ρ x w h hR q6 ?_)
      have hb := CL_wf (boxes := boxes) (rows := rows) hcl
      unfold valueAt at hv
      cases g
      · simp only [cond_false] at hv
        split at hv
        · rename_i c hc
          simp at hv; subst hv
          intro c' hc'; simp at hc'; subst hc'
          exact hb _ (List.mem_of_getElem? hc)
        · simp at hv
      · simp only [cond_true] at hv
        cases hbb : Nat.ble (sub + sz) (r0.f idx).length <;> rw [hbb] at hv
        · simp at hv
        · simp at hv; subst hv
          intro c hc
          exact hb c (List.mem_of_mem_drop (List.mem_of_mem_take hc))
    · simp at h
  | rstore id idx sub cs =>
    obtain ⟨t, x, b, h1, h2, hb, h3⟩ := hp
    obtain ⟨r0, hr0, hlt⟩ := hwf
    simp only [memK, hr0] at h
    cases hc : (Nat.ble (sub + cs.length) r0.w && allB AC.plain cs) <;> rw [hc] at h
    · simp at h
    · simp only [cond_true, forceL_eq] at h
      simp only [Bool.and_eq_true] at hc
      have hle := Nat.le_of_ble_eq_true hc.1
      obtain ⟨q1, q2, xs, q3, q4⟩ := hR.ro id r0 hr0
      rcases q3.2 with ⟨e1, e2⟩ | ⟨g', cap, cur, e1, e2, e3, e4, e5, e6, e7⟩
      · omega
      · have hbg : b = g' := by rw [e1] at hb; simp [Value.ownBlock] at hb; exact hb.symm
        subst hbg
        have hlen := h2.length
        have hxs := q4.1
        have hbound : idx * r0.w + sub + cs.length ≤ r0.n * r0.w := by
          have : idx * r0.w + r0.w ≤ r0.n * r0.w := by
            calc idx * r0.w + r0.w = (idx + 1) * r0.w := by rw [Nat.add_mul, Nat.one_mul]
              _ ≤ r0.n * r0.w := Nat.mul_le_mul_right _ hlt
          omega
        have hcapb : r0.n * r0.w ≤ cap * r0.w := Nat.mul_le_mul_right _ e4
        rw [q2] at h3
        rw [hlen] at h1 hle hbound
        have q5 := run_storeVar (off := idx * r0.w + sub) h1 e3 (by rw [e6]; omega) h2.one
        rw [q5] at h3
        have hcurlen : cur.toList.length = cap * r0.w := by rw [Array.length_toList]; exact e6
        have htk : (splice cur.toList (idx * r0.w + sub) x.cells.toList).take (r0.n * r0.w) = splice xs (idx * r0.w + sub) x.cells.toList := by
          rw [splice_eq _ _ _ (by omega), splice_eq _ _ _ (by omega), ← e7]
          apply List.ext_getElem?
          intro j
          simp only [List.getElem?_take, List.getElem?_append, List.length_take, List.length_append, List.getElem?_drop]
          by_cases hj : j < r0.n * r0.w
          · rw [if_pos hj]
            by_cases j1 : j < idx * r0.w + sub
            · rw [if_pos (by omega), if_pos (by omega), if_pos (by omega), if_pos (by omega), if_pos (by omega), if_pos (by omega), if_pos hj]
            · by_cases j2 : j < idx * r0.w + sub + x.cells.toList.length
              · rw [if_pos (by omega), if_neg (by omega), if_pos (by omega), if_neg (by omega)]
                congr 1; omega
              · rw [if_neg (by omega), if_neg (by omega), if_pos (by omega)]
                congr 1; omega
          · rw [if_neg hj, if_neg (by omega), if_neg (by omega)]
        have hng : ¬ ρ.im b := fun hi => (hR.ib b hi).2.2 id r0 hr0 hb
        have hold : ∀ k, k ≠ b → (w.setRow b (splice cur.toList (idx * r0.w + sub) x.cells.toList).toArray).heap[k]? = w.heap[k]? := fun k hk => setRow_other w b k _ hk
        have hturn := hR.turnRow (id := id) hr0 (r' := ⟨r0.ty, r0.w, r0.n, fun i => bif Nat.beq i idx then splice (r0.f i) sub cs else r0.f i⟩) (v' := ρ.rv id)
          (xs := splice xs (idx * r0.w + sub) x.cells.toList) (w' := w.setRow b (splice cur.toList (idx * r0.w + sub) x.cells.toList).toArray)
          ⟨rfl, rfl, rfl, by simp, fun k _ hk => hold k (fun e => hk (by rw [e, hb]))⟩ rfl
          ⟨by rw [splice_length]; exact hxs, .inr ⟨b, cap, _, e1, e2, setRow_heap w b cur _ r0.ty _ e3, e4, e5, by simp only [List.size_toArray]; rw [splice_length]; exact hcurlen, htk⟩⟩
          ⟨by rw [splice_length]; exact hxs, fun i hi => by
            show CL _ (bif Nat.beq i idx then splice (r0.f i) sub cs else r0.f i) _
            by_cases hii : i = idx
            · subst hii
              have hbe : Nat.beq i i = true := by simp
              rw [hbe, cut_splice_same xs _ i r0.w sub r0.n hlt hxs (by omega)]
              have hcs := (h2.plain hc.2).mono (R' := CP ρ.im (w.setRow b (splice cur.toList (i * r0.w + sub) x.cells.toList).toArray)) fun _ _ _ hh => CP.mono (fun _ h => h) (fun k hk => hold k (fun e => hng (e ▸ hk))) _ _ hh
              have hfi := (q4.2 i hlt).mono (R' := CP ρ.im (w.setRow b (splice cur.toList (i * r0.w + sub) x.cells.toList).toArray)) fun _ _ _ hh => CP.mono (fun _ h => h) (fun k hk => hold k (fun e => hng (e ▸ hk))) _ _ hh
              exact hfi.splice sub hcs
            · have hbe : Nat.beq i idx = false := by
                cases hbb : Nat.beq i idx
                · rfl
                · exact absurd (Nat.eq_of_beq_eq_true hbb) hii
              rw [hbe, cut_splice_other xs _ idx i r0.w sub r0.n hlt hii hxs (by omega)]
              exact (q4.2 i hi).mono fun _ _ _ hh => CP.mono (fun _ h => h) (fun k hk => hold k (fun e => hng (e ▸ hk))) _ _ hh⟩
          (.inl rfl) (.inl ⟨rfl, rfl⟩)
        exact skip_wp h3 (hnext .dead _ _ _ _ undef _ h hturn trivial trivial)
  | newRow el wd n f =>
    obtain ⟨arr, h1, h2, h3, h4⟩ := hp
    simp only [memK] at h
    split at h
    · rename_i d hd
      split at h
      · simp at h
      · rename_i hn
        simp only [forceL_eq] at h
        have hb : Below w.heap.size w (w.alloc (.cells arr el)) := (Below.refl _ _).alloc (Nat.le_refl _) _
        have hrow : RowC ρ.im (w.alloc (.cells arr el)) n wd f arr.toList := h3.mono (fun _ h => h) (fun b hb' => Below.heap_alloc w _ b (hR.ib b hb').1)
        have hadd := hR.addRow (d := d) hn (r := ⟨el, wd, n, f⟩) (v' := .slice (some ⟨w.heap.size, 0, none⟩) n n) (xs := arr.toList) (w' := w.alloc (.cells arr el)) hb h1
          ⟨h3.1, .inr ⟨w.heap.size, n, arr, rfl, hR.sz, heap_alloc_new w _, Nat.le_refl _, h2, by rw [← Array.length_toList]; exact h3.1, by rw [← h3.1, List.take_length]⟩⟩ hrow
          (fun g hg => by simp [Value.ownBlock] at hg; omega)
        refine val_wp h4 (hnext _ _ _ _ _ _ _ h hadd ?_ ?_)
        · exact TVR.c' ⟨by simp only [upN_same], by simp only [upN_same], .inr ⟨_, _, rfl⟩⟩
        · intro c hc
          simp at hc; subst hc
          exact ⟨_, look_ins_same _ _ _ hn, rfl, rfl⟩
    · simp at h
  | newView el wd n f =>
    obtain ⟨arr, h1, h2, h3, h4⟩ := hp
    simp only [memK] at h
    have hb : Below w.heap.size w (w.alloc (.cells arr el)) := (Below.refl _ _).alloc (Nat.le_refl _) _
    have hrow : RowC ρ.im (w.alloc (.cells arr el)) n wd f arr.toList := h3.mono (fun _ h => h) (fun b hb' => Below.heap_alloc w _ b (hR.ib b hb').1)
    have hg := hR.growIm (im' := fun b => ρ.im b ∨ b = w.heap.size) hb (fun b h => .inl h) (fun b h => h.imp id fun e => by subst e; exact ⟨Nat.le_refl _, lt_of_heap (heap_alloc_new w _)⟩)
    refine val_wp h4 (hnext _ _ _ _ _ _ _ h hg ?_ ?_)
    · refine TVR.c' ?_
      simp only [CC, CP]
      refine ⟨_, n, rfl, Nat.le_refl _, fun i hi => ⟨w.heap.size, 0, rfl, .inr rfl, ?_, ?_⟩⟩
      · have hle : i * wd + wd ≤ n * wd := by
          calc i * wd + wd = (i + 1) * wd := by rw [Nat.add_mul, Nat.one_mul]
            _ ≤ n * wd := Nat.mul_le_mul_right _ hi
        rw [(hrow.2 i hi).length]
        have := hrow.1
        simp only [cut, List.length_take, List.length_drop]; omega
      · refine CPs_of_read _ (cut arr.toList (i * wd) wd) _ _ ((hrow.2 i hi).mono fun _ _ _ hh => CP.mono (fun _ h => .inl h) (fun _ _ => rfl) _ _ hh) ?_
        intro j y hj
        simp only [cut, List.getElem?_take] at hj
        split at hj
        · rw [List.getElem?_drop] at hj
          rw [cell_of_row _ _ _ arr el (0, 0) (heap_alloc_new w _)]
          simpa using hj
        · simp at hj
    · intro c hc
      simp at hc; subst hc
      trivial
  | append e wd bytes s x =>
    obtain ⟨t, ty, i, z, sv, xv, h1, h2, h3, h4, h5, h6, h7, h8, h9⟩ := hp
    subst h5
    simp only [memK] at h
    split at h
    · rename_i m g hsrc
      obtain ⟨ad, c, news, rfl, hrow, hnews⟩ := source_sound hR hsrc h8
      split at h
      · -- onto nil
        split at h
        · rename_i d hd
          split at h
          · simp at h
          · rename_i hn
            cases hb : (Nat.ble 1 wd && Nat.ble 1 i.bytes) <;> rw [hb] at h
            · simp at h
            · simp only [cond_true] at h
              simp only [Bool.and_eq_true] at hb
              have hw1 := Nat.le_of_ble_eq_true hb.1
              have hby := Nat.le_of_ble_eq_true hb.2
              cases hbb : Nat.ble (m * i.bytes) 140737488355328 <;> rw [hbb] at h
              · simp at h
              · simp only [cond_true, forceL_eq] at h
                have hbound := Nat.le_of_ble_eq_true hbb
                have hm : m ≤ m * i.bytes := Nat.le_mul_of_pos_right m (by omega)
                simp only [CC, CP] at h7
                subst h7
                obtain ⟨v', w', q1, q2, q3, q4⟩ := run_append_any' (P := P) (ty := ty) (c := c) h1 h2 h3 h4 h6 (by omega) (World.ownsRow_nil w B e wd) hrow.1 hnews (hrow.one (by omega)) (by simp only [maxLen]; omega) (by simpa using hbound) hR.sz
                rw [q1] at h9
                simp only [Nat.zero_add, List.nil_append] at q2
                have hbel : Below w.heap.size w w' := ⟨q3.os, q3.tape, q3.output, q3.size, fun k hk => q3.block k hk (by simp [Value.ownBlock])⟩
                have hadd := hR.addRow (d := d) hn (r := ⟨e, wd, m, g⟩) (v' := v') (xs := news) (w' := w') hbel (by show 0 < wd; omega) q2
                  (hrow.mono (fun _ h => h) (fun b hb' => hbel.block b (hR.ib b hb').1)) (fun g' hg' => by
                    rcases q4 with q4 | q4
                    · rw [q4] at hg'; simp [Value.ownBlock] at hg'
                    · rw [q4] at hg'; simp at hg'; omega)
                refine val_wp h9 (hnext _ _ _ _ _ _ _ h hadd ?_ ?_)
                · refine TVR.c' ⟨by simp only [upN_same], by simp only [upN_same], ?_⟩
                  rcases q2.2 with ⟨e1, e2⟩ | ⟨g', cap, cur, e1, _⟩
                  · exact .inl ⟨e1, e2⟩
                  · exact .inr ⟨g', cap, e1⟩
                · intro c hc
                  simp at hc; subst hc
                  exact ⟨_, look_ins_same _ _ _ hn, rfl, rfl⟩
        · simp at h
      · -- onto a row of the call's own
        rename_i id w1 n1
        split at h
        · rename_i r0 hr0
          cases hb : (Nat.beq r0.w wd && Nat.beq r0.ty e && Nat.ble 1 i.bytes) <;> rw [hb] at h
          · simp at h
          · simp only [cond_true] at h
            simp only [Bool.and_eq_true] at hb
            have e1 := Nat.eq_of_beq_eq_true hb.1.1
            have e2 := Nat.eq_of_beq_eq_true hb.1.2
            have hby := Nat.le_of_ble_eq_true hb.2
            subst e1 e2
            cases hbb : Nat.ble ((r0.n + m) * i.bytes) 140737488355328 <;> rw [hbb] at h
            · simp at h
            · simp only [cond_true, forceL_eq] at h
              have hbound := Nat.le_of_ble_eq_true hbb
              have hm : r0.n + m ≤ (r0.n + m) * i.bytes := Nat.le_mul_of_pos_right _ (by omega)
              obtain ⟨q1, q2, xs, q3, q4⟩ := hR.ro id r0 hr0
              obtain ⟨c1, c2, c3⟩ := h7
              subst c1
              obtain ⟨v', w', p1, p2, p3, p4⟩ := run_append_any' (P := P) (ty := ty) (c := c) h1 h2 h3 h4 h6 q1 q3 hrow.1 hnews (hrow.one q1) (by simp only [maxLen]; omega) hbound hR.sz
              rw [p1] at h9
              have hRk := hR.kill id
              have himb : ∀ b, ρ.im b → w'.heap[b]? = w.heap[b]? := fun b hb' => p3.block b (hR.ib b hb').1 (fun e => (hR.ib b hb').2.2 id r0 hr0 e.symm)
              have happ := (q4.append hrow).mono (fun _ h => h) himb
              have hturn := hRk.turnRow (id := id) hr0 (r' := ⟨r0.ty, r0.w, r0.n + m, fun i => bif Nat.blt i r0.n then r0.f i else g (i - r0.n)⟩) (v' := v') (xs := xs ++ news) (w' := w') p3 rfl p2 happ
                (orMap p4 (fun x => x) (fun x g' hg' => by rw [x] at hg'; simp at hg'; omega))
                (.inr ⟨fun v hv => by
                  simp only [List.mem_map] at hv
                  obtain ⟨u, _, rfl⟩ := hv
                  exact TV.kill_free id u, fun k b hk a' ha' => by
                  rw [look_map] at hk
                  cases hl : look boxes k with
                  | none => rw [hl] at hk; simp at hk
                  | some b' =>
                    rw [hl] at hk; simp at hk; subst hk
                    simp only [Box.kill, List.mem_map] at ha'
                    obtain ⟨u, _, rfl⟩ := ha'
                    exact AC.kill_free id u⟩)
              refine val_wp h9 (hnext _ _ _ _ _ _ _ h hturn ?_ ?_)
              · refine TVR.c' ⟨by simp only [upN_same], by simpa using q2, ?_⟩
                rcases p2.2 with ⟨e1, e2⟩ | ⟨g', cap, cur, e1, _⟩
                · exact .inl ⟨e1, e2⟩
                · exact .inr ⟨g', cap, e1⟩
              · intro c hc
                simp at hc; subst hc
                exact ⟨_, look_upd_same _ _ _ _ hr0, rfl, rfl⟩
        · simp at h
      · simp at h
    · simp at h
  | call f args =>
    obtain ⟨xs, h1, h2, h3⟩ := hp
    simp only [memK] at h
    split at h
    · rename_i g hg
      split at h
      · rename_i as has
        obtain ⟨hal, hag⟩ := resArgs_get has
        obtain ⟨hcall, hsp⟩ := hspec f g hg
        split at h
        · rename_i ok v hgv
          cases hb0 : ((!(args.any TV.hasOwn) || v.flat) && v.plainB) <;> rw [hb0] at h
          · simp at h
          · simp only [cond_true] at h
            have hb : (!(args.any TV.hasOwn) || v.flat) = true := (Bool.and_eq_true _ _ ▸ hb0).1
            cases ok
            · simp at h
            · simp only [cond_true] at h
              have hpc := hsp as v hgv
              by_cases hown : args.any TV.hasOwn = true
              · -- own rows are shown: the result holds no slice
                have hflat : v.flat = true := by rw [hown] at hb; simpa using hb
                let im2 : Nat → Prop := fun b => ρ.im b ∨ ∃ id r0, look rows id = some r0 ∧ (ρ.rv id).ownBlock = some b
                refine call_wp hcall h3 ((hpc w im2 xs (by rw [h1, hal]) ?_ ?_).mono ?_)
                · intro i a' x ha' hx
                  obtain ⟨a0, ha0, hr0⟩ := hag i a' ha'
                  refine PTV_of_TVR (boxes := boxes) hr0 ?_ (hwf a0 (List.mem_of_getElem? ha0)) (h2 i a0 x ha0 hx)
                  intro b b' y hb' hy hwb
                  cases b <;> simp only [AC.res] at hb' <;> try (simp at hb'; done)
                  case own id w1 n1 =>
                    split at hb'
                    · rename_i r0 hr0'
                      simp at hb'; subst hb'
                      obtain ⟨q1, q2, ys, q3, q4⟩ := hR.ro id r0 hr0'
                      obtain ⟨c1, c2, c3⟩ := hy
                      subst c1
                      simp only [CP]
                      rcases q3.2 with ⟨e1, e2⟩ | ⟨g', cap, cur, e1, e2, e3, e4, e5, e6, e7⟩
                      · exact ⟨none, 0, by rw [e1, e2], by omega, fun i hi => by omega⟩
                      · refine ⟨_, cap, e1, e4, fun i hi => ⟨g', 0, rfl, .inr ⟨id, r0, hr0', by rw [e1]; rfl⟩, ?_, ?_⟩⟩
                        · rw [(q4.2 i hi).length]
                          have hle : i * r0.w + r0.w ≤ r0.n * r0.w := by
                            calc i * r0.w + r0.w = (i + 1) * r0.w := by rw [Nat.add_mul, Nat.one_mul]
                              _ ≤ r0.n * r0.w := Nat.mul_le_mul_right _ hi
                          have := q4.1
                          simp [cut]; omega
                        · refine CPs_of_read _ (cut ys (i * r0.w) r0.w) g' _ ((q4.2 i hi).mono fun _ _ _ hh => CP.mono (fun _ h => .inl h) (fun _ _ => rfl) _ _ hh) ?_
                          intro j y hj
                          simp only [cut, List.getElem?_take] at hj
                          split at hj
                          · rw [List.getElem?_drop] at hj
                            have := q3.cells (g := g') (by rw [e1]; rfl) (i * r0.w + j) y hj
                            rw [Addr.add_lit] at this
                            simpa [Nat.add_assoc] using this
                          · simp at hj
                    · simp at hb'
                  all_goals
                    simp at hb'; subst hb'
                    exact CP.mono (im := ρ.im) (fun _ h => .inl h) (fun _ _ => rfl) _ _ hy
                · rintro b (hb' | ⟨id, r0, hr0, hb'⟩)
                  · exact (hR.ib b hb').1
                  · exact (hR.rwlt hr0 hb').2
                · rintro e w' ⟨x, im', he, hbel, _, _, hres⟩
                  have hR' : RelE B w0 I0 tm boxes rows ρ tmps w' := by
                    have hold : ∀ b, b < w.heap.size → w'.heap[b]? = w.heap[b]? := fun b hb => hbel.block b hb
                    have hcc : ∀ (a : AC) (x : Value), CC ρ w a x → CC ρ w' a x := fun a x hx => CC.mono (fun _ h => h) (fun b hb => hold b (hR.ib b hb).1) a x (by cases a <;> simp [AC.agree]) hx
                    refine ⟨hR.tl, fun i v hi => TVR.mono hcc v _ (hR.tv i v hi), hR.wt, hR.wb, ?_, hR.bi, ?_, hR.ri, hR.br, ?_, hR.fr.trans (hbel.mono hR.sz), Nat.le_trans hR.sz hbel.size, hR.i0, hR.i1⟩
                    · intro k b hk
                      obtain ⟨arr, q1, q2, q3⟩ := hR.bx k b hk
                      exact ⟨arr, by rw [hold _ (lt_of_heap q1)]; exact q1, q2.mono fun a _ x hx => hcc a x hx, q3⟩
                    · intro id r0 hr0
                      obtain ⟨q1, q2, ys, q3, q4⟩ := hR.ro id r0 hr0
                      exact ⟨q1, q2, ys, ownsRow_keep q3 fun g hg => hold g (hR.rwlt hr0 hg).2, q4.mono (fun _ h => h) (fun b hb => hold b (hR.ib b hb).1)⟩
                    · intro b hb
                      obtain ⟨q1, q2, q3⟩ := hR.ib b hb
                      exact ⟨Nat.lt_of_lt_of_le q1 hbel.size, q2, q3⟩
                  have hres' : PRes ρ.im w' v x := PRes_flat hflat hres
                  exact ⟨x, he, hnext v _ _ _ ρ x w' h hR' (TVR_of_PRes hres') (PRes_wf hres')⟩
              · refine call_wp hcall h3 ((hpc w ρ.im xs (by rw [h1, hal]) ?_ (fun b hb => (hR.ib b hb).1)).mono ?_)
                · intro i a' x ha' hx
                  obtain ⟨a0, ha0, hr0⟩ := hag i a' ha'
                  have hno : a0.hasOwn = false := by
                    cases hh : a0.hasOwn
                    · rfl
                    · exact absurd (List.any_eq_true.2 ⟨a0, List.mem_of_getElem? ha0, hh⟩) hown
                  have key : ∀ (cs cs' : List AC) (ys : List Value), cs.any AC.isOwn = false → resL rows cs = some cs' → CL (CC ρ w) cs ys → CL (CP ρ.im w) cs' ys := by
                    intro cs
                    induction cs with
                    | nil => intro cs' ys _ e1 e2; simp [resL] at e1; subst e1; cases ys <;> first | exact e2 | exact e2.elim
                    | cons b cs ih =>
                      intro cs' ys hno e1 e2
                      cases ys with
                      | nil => exact e2.elim
                      | cons y ys =>
                        simp only [List.any_cons, Bool.or_eq_false_iff] at hno
                        simp only [resL] at e1
                        split at e1
                        · rename_i b' hb'
                          split at e1
                          · rename_i l' hl'
                            simp at e1; subst e1
                            refine ⟨?_, ih _ _ hno.2 hl' e2.2⟩
                            have hbo := hno.1
                            have hcy := e2.1
                            cases b <;> simp only [AC.res] at hb' <;> first | (simp at hb'; done) | (simp [AC.isOwn] at hbo; done) | (simp at hb'; subst hb'; exact hcy)
                          · simp at e1
                        · simp at e1
                  have htv := h2 i a0 x ha0 hx
                  cases a0 with
                  | dead => simp [TV.res] at hr0
                  | tup => simp [TV.res] at hr0
                  | v gg cs =>
                    simp only [TV.res] at hr0
                    split at hr0
                    · rename_i l hl
                      simp at hr0; subst hr0
                      cases gg
                      · obtain ⟨b, rfl, hb'⟩ := htv
                        have := key [b] l [x] hno hl ⟨hb', trivial⟩
                        cases l with
                        | nil => exact this.elim
                        | cons c l' => cases l' with
                          | nil => exact ⟨c, rfl, this.1⟩
                          | cons _ _ => exact this.2.elim
                      · obtain ⟨ys, rfl, hy⟩ := htv
                        exact ⟨ys, rfl, key _ _ _ hno hl hy⟩
                    · simp at hr0
                · rintro e w' ⟨x, im', he, hbel, him1, him2, hres⟩
                  have hold : ∀ b, b < w.heap.size → w'.heap[b]? = w.heap[b]? := fun b hb => hbel.block b hb
                  have hR' : RelE B w0 I0 tm boxes rows { ρ with im := im' } tmps w' := hR.growIm hbel him1 him2
                  exact ⟨x, he, hnext v _ _ _ _ x w' h hR' (TVR_of_PRes hres) (PRes_wf hres)⟩
        · simp at h
      · simp at h
    · simp at h
end
end Go.Am
