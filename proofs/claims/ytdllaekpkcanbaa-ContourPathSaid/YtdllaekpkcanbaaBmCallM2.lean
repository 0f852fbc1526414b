/- The abstract machine, second form: calls that turn memory are sound. -/
import Derived.Test.YtdllaekpkcanbaaBmCallM
set_option linter.unusedVariables false
set_option linter.unusedSimpArgs false
namespace Go.Bm
open Go.RowKit

section
variable {P : Program} {C : Cfg} {ρ : Env} {w : World} {R : Type} {Z : Base} {tm : List TV} {boxes : List (Nat × Box)} {rows : List (Nat × Row)} {tmps : Array Value}

theorem boxCells_some {k : Nat} {b : Box} (h : look boxes k = some b) : Qgq boxes k = b.cells := by unfold Qgq; rw [h]

def Qm0 (ρ : Env) (keys ids : List Nat) : Env := ⟨fun c => ρ.bx (nth 0 keys (c - base)), fun c => ρ.rv (nth 0 ids (c - base)), fun c => ρ.wd (nth 0 ids (c - base)), ρ.im⟩
def Qjj (w : World) (ρ : Env) (keys ids : List Nat) : Nat -> Prop := fun b => b < w.heap.size /\ (∀ k ∈ keys, ρ.bx k ≠ b) /\ ∀ id ∈ ids, (ρ.rv id).ownBlock ≠ some b

theorem enter_rel (hR : RelE Z tm boxes rows ρ tmps w) {args : List TV} {xs : List Value} (h1 : xs.length = args.length)
  (h2 : ∀ (i : Nat) (a : TV) (x : Value), args[i]? = some a -> xs[i]? = some x -> TVR ρ w a x) (hwf : ∀ v ∈ args, TV.wf boxes rows v) {keys ids : List Nat} (hkd : keys.Nodup) (hidd : ids.Nodup)
  (hin : ∀ v ∈ args, TV.inK keys ids v = true) (hbin : ∀ k ∈ keys, allB (AC.inK keys ids) (Qgq boxes k) = true) {mb : List (Nat × Box)} {mr : List (Nat × Row)}
  (hmb : subB boxes (fun k => base + pos keys k) (fun i => base + pos ids i) base keys = some mb) (hmr : subR rows base ids = some mr) :
  RelE (baseOf (Qjj w ρ keys ids) w (Qm0 ρ keys ids) mb) (args.map (TV.ren (fun k => base + pos keys k) (fun i => base + pos ids i))) mb mr (Qm0 ρ keys ids) xs.toArray w := by
 obtain ⟨b1, b2⟩ := subB_look hmb
 obtain ⟨r1, r2⟩ := subR_look hmr
 have eb : ∀ k, k ∈ keys -> (Qm0 ρ keys ids).bx (base + pos keys k) = ρ.bx k := fun k hk => by
  show ρ.bx (nth 0 keys (base + pos keys k - base)) = _
  rw [Nat.add_sub_cancel_left, (Qhf hk).2]
 have er : ∀ i, i ∈ ids -> (Qm0 ρ keys ids).rv (base + pos ids i) = ρ.rv i /\ (Qm0 ρ keys ids).wd (base + pos ids i) = ρ.wd i := fun i hi => by
  constructor
  ·show ρ.rv (nth 0 ids (base + pos ids i - base)) = _
   rw [Nat.add_sub_cancel_left, (Qhf hi).2]
  ·show ρ.wd (nth 0 ids (base + pos ids i - base)) = _
   rw [Nat.add_sub_cancel_left, (Qhf hi).2]
 have wb : ∀ k, k ∈ keys -> (∃ b, look boxes k = some b) -> ∃ b, look mb (base + pos keys k) = some b := fun k hk _ => by
  obtain ⟨x, _, q⟩ := b1 (pos keys k) (Qhf hk).1
  exact ⟨_, q⟩
 have wr : ∀ i r, i ∈ ids -> look rows i = some r -> ∃ r', look mr (base + pos ids i) = some r' /\ r'.n = r.n /\ r'.w = r.w := fun i r hi hr => by
  obtain ⟨x, q1, q⟩ := r1 (pos ids i) (Qhf hi).1
  rw [(Qhf hi).2, hr] at q1
  simp at q1; subst q1
  exact ⟨_, q, rfl, rfl⟩
 have lb : ∀ c x, look mb c = some x -> ∃ i x0, i < keys.length /\ c = base + i /\ look boxes (nth 0 keys i) = some x0 /\ x = ⟨x0.ty, x0.cells.map (AC.ren (fun k => base + pos keys k) (fun i => base + pos ids i))⟩ := by
  intro c x hc
  obtain ⟨i, hi, rfl⟩ := b2 c x hc
  obtain ⟨x0, q1, q2⟩ := b1 i hi
  rw [hc] at q2; simp at q2
  exact ⟨i, x0, hi, rfl, q1, q2⟩
 have lr : ∀ c x, look mr c = some x -> ∃ i, i < ids.length /\ c = base + i /\ look rows (nth 0 ids i) = some x := by
  intro c x hc
  obtain ⟨i, hi, rfl⟩ := r2 c x hc
  obtain ⟨x0, q1, q2⟩ := r1 i hi
  rw [hc] at q2; simp at q2; subst q2
  exact ⟨i, hi, rfl, q1⟩
 have xb : ∀ i, (Qm0 ρ keys ids).bx (base + i) = ρ.bx (nth 0 keys i) := fun i => by
  show ρ.bx (nth 0 keys (base + i - base)) = _
  rw [Nat.add_sub_cancel_left]
 have xr : ∀ i, (Qm0 ρ keys ids).rv (base + i) = ρ.rv (nth 0 ids i) := fun i => by
  show ρ.rv (nth 0 ids (base + i - base)) = _
  rw [Nat.add_sub_cancel_left]
 have xw : ∀ i, (Qm0 ρ keys ids).wd (base + i) = ρ.wd (nth 0 ids i) := fun i => by
  show ρ.wd (nth 0 ids (base + i - base)) = _
  rw [Nat.add_sub_cancel_left]
 have nthk : ∀ i j, i < keys.length -> j < keys.length -> nth 0 keys i = nth 0 keys j -> i = j := fun i j hi hj e => by rw [<- pos_nth hkd hi, <- pos_nth hkd hj, e]
 have nthi : ∀ i j, i < ids.length -> j < ids.length -> nth 0 ids i = nth 0 ids j -> i = j := fun i j hi hj e => by rw [<- pos_nth hidd hi, <- pos_nth hidd hj, e]
 refine ⟨by simp [h1], fun i v hi => ?_, fun v hv => ?_, fun k b hk a ha => ?_, fun k b hk => ?_, fun k k' b b' hk hk' he => ?_, fun id r hr => ?_, fun id id' r r' g hr hr' hg hg' => ?_, fun k b id r hk hr => ?_, fun b hb => ⟨(hR.ib b hb).1, fun k bo hk => ?_, fun id r hr => ?_⟩, Fr.refl _ _, fun k h => h.1, fun b h => h, fun b h => .inl h, fun k b hk => ?_⟩
 ·simp only [List.getElem?_map, Option.map_eq_some_iff] at hi
  obtain ⟨a, ha, rfl⟩ := hi
  have hil : i < xs.length := by rw [h1]; exact (List.getElem?_eq_some_iff.1 ha).1
  have e : xs.toArray.getD i undef = xs[i] := by simp [Array.getD, hil]
  rw [e]
  exact ren_TVR (Kp := (· ∈ keys)) (Ip := (· ∈ ids)) eb er rfl (TV.nm_of_inK (hin a (List.mem_of_getElem? ha))) (h2 i a _ ha (List.getElem?_eq_getElem hil))
 ·simp only [List.mem_map] at hv
  obtain ⟨a, ha, rfl⟩ := hv
  exact ren_wfT (Kp := (· ∈ keys)) (Ip := (· ∈ ids)) wb wr (TV.nm_of_inK (hin a ha)) (hwf a ha)
 ·obtain ⟨i, x0, hi, rfl, q1, rfl⟩ := lb k b hk
  simp only [List.mem_map] at ha
  obtain ⟨c, hc, rfl⟩ := ha
  have hin' := hbin _ (Qlv hi)
  rw [boxCells_some q1] at hin'
  exact ren_wf (Kp := (· ∈ keys)) (Ip := (· ∈ ids)) wb wr (AC.nm_of_inK (Qag.1 hin' c hc)) (hR.wb _ x0 q1 c hc)
 ·obtain ⟨i, x0, hi, rfl, q1, rfl⟩ := lb k b hk
  obtain ⟨arr, p1, p2, p3⟩ := hR.bx _ x0 q1
  have hin' := hbin _ (Qlv hi)
  rw [boxCells_some q1] at hin'
  refine ⟨arr, by rw [xb]; exact p1, ren_CL (Kp := (· ∈ keys)) (Ip := (· ∈ ids)) eb er rfl (fun c hc => AC.nm_of_inK (Qag.1 hin' c hc)) p2, ?_⟩
  rw [xb]
  exact fun hf => hf.2.1 _ (Qlv hi) rfl
 ·obtain ⟨i, x0, hi, rfl, q1, _⟩ := lb k b hk
  obtain ⟨j, y0, hj, rfl, q2, _⟩ := lb k' b' hk'
  rw [xb, xb] at he
  rw [nthk i j hi hj (hR.bi _ _ _ _ q1 q2 he)]
 ·obtain ⟨i, hi, rfl, q1⟩ := lr id r hr
  obtain ⟨p1, p2, p0, ys, p3, p4⟩ := hR.ro _ r q1
  exact ⟨p1, by rw [xw]; exact p2, fun g hg hf => hf.2.2 _ (Qlv hi) (by rw [xr] at hg; exact hg), ys, by rw [xr]; exact p3, p4⟩
 ·obtain ⟨i, hi, rfl, q1⟩ := lr id r hr
  obtain ⟨j, hj, rfl, q2⟩ := lr id' r' hr'
  rw [xr] at hg hg'
  rw [nthi i j hi hj (hR.ri _ _ _ _ g q1 q2 hg hg')]
 ·obtain ⟨i, x0, hi, rfl, q1, _⟩ := lb k b hk
  obtain ⟨j, hj, rfl, q2⟩ := lr id r hr
  rw [xr, xb]
  exact hR.br _ _ _ _ q1 q2
 ·obtain ⟨i, x0, hi, rfl, q1, _⟩ := lb k bo hk
  rw [xb]
  exact (hR.ib b hb).2.1 _ _ q1
 ·obtain ⟨i, hi, rfl, q1⟩ := lr id r hr
  rw [xr]
  exact (hR.ib b hb).2.2 _ _ q1
 ·simp only [baseOf, Option.map_eq_some_iff] at hk
  obtain ⟨bo, hbo, e⟩ := hk
  exact ⟨e, bo, hbo⟩

noncomputable def Qkq (ρ ρ2 : Env) (mb' : List (Nat × Box)) (mr' : List (Nat × Row)) (bk bi : Nat -> Nat) : Env :=
 ⟨fun n => match invN mb' bk n with | some k => ρ2.bx k | none => ρ.bx n, fun n => match invN mr' bi n with | some k => ρ2.rv k | none => ρ.rv n, fun n => match invN mr' bi n with | some k => ρ2.wd k | none => ρ.wd n, ρ2.im⟩

theorem leave_rel (hR : RelE Z tm boxes rows ρ tmps w) {keys ids : List Nat} (hkd : keys.Nodup) (hidd : ids.Nodup) {mb mb' : List (Nat × Box)} {mr mr' : List (Nat × Row)}
  (hmb : subB boxes (fun k => base + pos keys k) (fun i => base + pos ids i) base keys = some mb) (hmr : subR rows base ids = some mr) {v : TV} {x : Value} {ρ2 : Env} {w' : World}
  (hR2 : RelE (baseOf (Qjj w ρ keys ids) w (Qm0 ρ keys ids) mb) [v] mb' mr' ρ2 #[x] w') {d : Nat}
  (hb' : (mb'.map (·.1)).Nodup) (hr' : (mr'.map (·.1)).Nodup) (hfb : ∀ k ∈ Qdq keys mb', look boxes (Qi1 keys (Qdq keys mb') d k) = none) (hfr : ∀ k ∈ Qdq ids mr', look rows (Qi1 ids (Qdq ids mr') d k) = none) :
  let bk := Qi1 keys (Qdq keys mb') d
  let bi := Qi1 ids (Qdq ids mr') d
  RelE Z (tm.map (killAll ids)) (insB bk bi mb' ((Qmd keys boxes).map fun p => (p.1, Qgk ids p.2))) (insR bi mr' (Qmd ids rows)) (Qkq ρ ρ2 mb' mr' bk bi) tmps w' /\
   TVR (Qkq ρ ρ2 mb' mr' bk bi) w' (v.ren bk bi) x /\ TV.wf (insB bk bi mb' ((Qmd keys boxes).map fun p => (p.1, Qgk ids p.2))) (insR bi mr' (Qmd ids rows)) (v.ren bk bi) := by
 intro bk bi
 obtain ⟨b1, b2⟩ := subB_look hmb
 obtain ⟨r1, r2⟩ := subR_look hmr
 have hkb : ∀ k ∈ keys, ∃ b, look boxes k = some b := fun k hk => by
  obtain ⟨x, q, _⟩ := b1 (pos keys k) (Qhf hk).1
  rw [(Qhf hk).2] at q; exact ⟨x, q⟩
 have hir : ∀ k ∈ ids, ∃ b, look rows k = some b := fun k hk => by
  obtain ⟨x, q, _⟩ := r1 (pos ids k) (Qhf hk).1
  rw [(Qhf hk).2] at q; exact ⟨x, q⟩
 have injb : ∀ k ∈ mb'.map (·.1), ∀ j ∈ mb'.map (·.1), bk k = bk j -> k = j := back_inj hkd hkb hfb
 have injr : ∀ k ∈ mr'.map (·.1), ∀ j ∈ mr'.map (·.1), bi k = bi j -> k = j := back_inj hidd hir hfr
 -- what came in is still there, where it was
 have hkeep : ∀ i, i < keys.length -> (∃ b, look mb' (base + i) = some b) /\ ρ2.bx (base + i) = ρ.bx (nth 0 keys i) := by
  intro i hi
  obtain ⟨x0, _, q⟩ := b1 i hi
  obtain ⟨p1, bo, p2⟩ := hR2.k0 (base + i) (ρ.bx (nth 0 keys i)) (by
   simp only [baseOf, q, Option.map_some]
   show some (ρ.bx (nth 0 keys (base + i - base))) = _
   rw [Nat.add_sub_cancel_left])
  exact ⟨⟨bo, p2⟩, p1⟩
 have bkin : ∀ i, i < keys.length -> bk (base + i) = nth 0 keys i := fun i hi => by
  have := backN_in (names := keys) (fresh := Qdq keys mb') (d := d) (k := base + i) ⟨by omega, by omega⟩
  rw [Nat.add_sub_cancel_left] at this; exact this
 have biin : ∀ i, i < ids.length -> bi (base + i) = nth 0 ids i := fun i hi => by
  have := backN_in (names := ids) (fresh := Qdq ids mr') (d := d) (k := base + i) ⟨by omega, by omega⟩
  rw [Nat.add_sub_cancel_left] at this; exact this
 -- the images of the callee's names
 have imb : ∀ k ∈ mb'.map (·.1), (∃ i, i < keys.length /\ k = base + i /\ bk k = nth 0 keys i) \/ (look boxes (bk k) = none) := by
  intro k hk
  by_cases hc : base <= k /\ k - base < keys.length
  ·refine .inl ⟨k - base, hc.2, by omega, ?_⟩
   have := bkin (k - base) hc.2
   rw [show base + (k - base) = k from by omega] at this; exact this
  ·exact .inr (hfb k (Qkb.2 ⟨hk, hc⟩))
 have imr : ∀ k ∈ mr'.map (·.1), (∃ i, i < ids.length /\ k = base + i /\ bi k = nth 0 ids i) \/ (look rows (bi k) = none) := by
  intro k hk
  by_cases hc : base <= k /\ k - base < ids.length
  ·refine .inl ⟨k - base, hc.2, by omega, ?_⟩
   have := biin (k - base) hc.2
   rw [show base + (k - base) = k from by omega] at this; exact this
  ·exact .inr (hfr k (Qkb.2 ⟨hk, hc⟩))
 -- an old name that was not handed over is no image
 have nob : ∀ n b, look boxes n = some b -> n ∉ keys -> ∀ k ∈ mb'.map (·.1), n ≠ bk k := by
  rintro n b hn hnk k hk rfl
  rcases imb k hk with ⟨i, hi, _, e⟩ | e
  ·exact hnk (by rw [e]; exact Qlv hi)
  ·rw [hn] at e; cases e
 have nor : ∀ n b, look rows n = some b -> n ∉ ids -> ∀ k ∈ mr'.map (·.1), n ≠ bi k := by
  rintro n b hn hnk k hk rfl
  rcases imr k hk with ⟨i, hi, _, e⟩ | e
  ·exact hnk (by rw [e]; exact Qlv hi)
  ·rw [hn] at e; cases e
 have ebx : ∀ k, (∃ b, look mb' k = some b) -> (Qkq ρ ρ2 mb' mr' bk bi).bx (bk k) = ρ2.bx k := fun k hk => by
  simp only [Qkq, invN_some injb (look_keys.2 hk)]
 have erv : ∀ k, (∃ b, look mr' k = some b) -> (Qkq ρ ρ2 mb' mr' bk bi).rv (bi k) = ρ2.rv k /\ (Qkq ρ ρ2 mb' mr' bk bi).wd (bi k) = ρ2.wd k := fun k hk => by
  constructor <;> simp only [Qkq, invN_some injr (look_keys.2 hk)]
 have obx : ∀ n, (∃ b, look boxes n = some b) -> (Qkq ρ ρ2 mb' mr' bk bi).bx n = ρ.bx n := by
  rintro n ⟨b, hn⟩
  by_cases hnk : n ∈ keys
  ·obtain ⟨p1, p2⟩ := Qhf hnk
   obtain ⟨q1, q2⟩ := hkeep _ p1
   have := ebx (base + pos keys n) q1
   rw [bkin _ p1, p2, q2, p2] at this
   exact this
  ·simp only [Qkq, invN_none (nob n b hn hnk)]
 have orv : ∀ n, (∃ b, look rows n = some b) -> n ∉ ids -> (Qkq ρ ρ2 mb' mr' bk bi).rv n = ρ.rv n /\ (Qkq ρ ρ2 mb' mr' bk bi).wd n = ρ.wd n := by
  rintro n ⟨b, hn⟩ hnk
  constructor <;> simp only [Qkq, invN_none (nor n b hn hnk)]
 -- the blocks
 have hsz := hR2.fr.size
 have fbx : ∀ n b, look boxes n = some b -> n ∉ keys -> Qjj w ρ keys ids (ρ.bx n) := fun n b hn hnk =>
  ⟨hR.bxlt hn, fun k hk e => by obtain ⟨b', hb'⟩ := hkb k hk; exact hnk (by rw [<- hR.bi k n b' b hb' hn e]; exact hk), fun id hid => by obtain ⟨r, hr⟩ := hir id hid; exact hR.br n b id r hn hr⟩
 have frv : ∀ n r g, look rows n = some r -> n ∉ ids -> (ρ.rv n).ownBlock = some g -> Qjj w ρ keys ids g := fun n r g hn hnk hg =>
  ⟨(hR.rwlt hn hg).2, fun k hk e => by obtain ⟨b', hb'⟩ := hkb k hk; exact hR.br k b' n r hb' hn (by rw [hg, e]), fun id hid e => by obtain ⟨r', hr'⟩ := hir id hid; exact hnk (by rw [<- hR.ri id n r' r g hr' hn e hg]; exact hid)⟩
 have fim : ∀ b, ρ.im b -> Qjj w ρ keys ids b := fun b hb =>
  ⟨(hR.ib b hb).1, fun k hk => by obtain ⟨b', hb'⟩ := hkb k hk; exact (hR.ib b hb).2.1 k b' hb', fun id hid => by obtain ⟨r, hr⟩ := hir id hid; exact (hR.ib b hb).2.2 id r hr⟩
 have fz : ∀ b, Z.F b -> Qjj w ρ keys ids b := fun b hb =>
  ⟨hR.fs b hb, fun k hk e => by obtain ⟨b', hb'⟩ := hkb k hk; obtain ⟨_, _, _, q⟩ := hR.bx k b' hb'; exact q (e ▸ hb), fun id hid e => by obtain ⟨r, hr⟩ := hir id hid; exact (hR.rwlt hr e).1 hb⟩
 have hold : ∀ b, Qjj w ρ keys ids b -> w'.heap[b]? = w.heap[b]? := fun b hb => hR2.fr.block b hb
 have him : ∀ b, ρ.im b -> ρ2.im b := fun b hb => hR2.i0 b hb
 have him2 : ∀ b, ρ2.im b -> ρ.im b \/ ¬ Qjj w ρ keys ids b := fun b hb => hR2.i1 b hb
 -- the tables behind the call
 have hbn : ∀ k ∈ mb'.map (·.1), look ((Qmd keys boxes).map fun p => (p.1, Qgk ids p.2)) (bk k) = none := by
  intro k hk
  rw [Qld (Qgk ids), Qi0]
  rcases imb k hk with ⟨i, hi, _, e⟩ | e
  ·rw [if_pos (by rw [e]; exact Qlv hi)]; rfl
  ·split
   ·rfl
   ·rw [e]; rfl
 have hrn : ∀ k ∈ mr'.map (·.1), look (Qmd ids rows) (bi k) = none := by
  intro k hk
  rw [Qi0]
  rcases imr k hk with ⟨i, hi, _, e⟩ | e
  ·rw [if_pos (by rw [e]; exact Qlv hi)]
  ·split
   ·rfl
   ·exact e
 obtain ⟨gb1, gb2⟩ := insG_look (rk := bk) (g := fun b : Box => (⟨b.ty, b.cells.map (AC.ren bk bi)⟩ : Box)) hb' injb hbn
 obtain ⟨gr1, gr2⟩ := insG_look (rk := bi) (g := fun b : Row => b) hr' injr hrn
 rw [insB_eq, insR_eq]
 generalize hB : insG bk (fun b : Box => (⟨b.ty, b.cells.map (AC.ren bk bi)⟩ : Box)) mb' ((Qmd keys boxes).map fun p => (p.1, Qgk ids p.2)) = B' at gb1 gb2 ⊢
 generalize hRr : insG bi (fun b : Row => b) mr' (Qmd ids rows) = R' at gr1 gr2 ⊢
 have caseB : ∀ n b, look B' n = some b -> (∃ k b0, look mb' k = some b0 /\ n = bk k /\ b = ⟨b0.ty, b0.cells.map (AC.ren bk bi)⟩) \/ (n ∉ keys /\ ∃ b0, look boxes n = some b0 /\ b = Qgk ids b0) := by
  intro n b hn
  by_cases hc : ∃ k ∈ mb'.map (·.1), n = bk k
  ·obtain ⟨k, hk, rfl⟩ := hc
   obtain ⟨b0, hb0⟩ := look_keys.1 hk
   have := gb1 k b0 hb0
   rw [hn] at this; simp at this
   exact .inl ⟨k, b0, hb0, rfl, this⟩
  ·rw [gb2 n (fun k hk e => hc ⟨k, hk, e⟩), Qld (Qgk ids), Qi0] at hn
   split at hn
   ·simp at hn
   ·rename_i hnk
    simp only [Option.map_eq_some_iff] at hn
    obtain ⟨b0, h1, h2⟩ := hn
    exact .inr ⟨hnk, b0, h1, h2.symm⟩
 have caseR : ∀ n r, look R' n = some r -> (∃ k, look mr' k = some r /\ n = bi k) \/ (n ∉ ids /\ look rows n = some r) := by
  intro n r hn
  by_cases hc : ∃ k ∈ mr'.map (·.1), n = bi k
  ·obtain ⟨k, hk, rfl⟩ := hc
   obtain ⟨b0, hb0⟩ := look_keys.1 hk
   have := gr1 k b0 hb0
   rw [hn] at this; simp at this; subst this
   exact .inl ⟨k, hb0, rfl⟩
  ·rw [gr2 n (fun k hk e => hc ⟨k, hk, e⟩), Qi0] at hn
   split at hn
   ·simp at hn
   ·rename_i hnk; exact .inr ⟨hnk, hn⟩
 have oldB : ∀ n b, look boxes n = some b -> ∃ b', look B' n = some b' := by
  intro n b hn
  by_cases hnk : n ∈ keys
  ·obtain ⟨p1, p2⟩ := Qhf hnk
   obtain ⟨⟨bo, q1⟩, _⟩ := hkeep _ p1
   have := gb1 _ bo q1
   rw [bkin _ p1, p2] at this
   exact ⟨_, this⟩
  ·rw [gb2 n (nob n b hn hnk), Qld (Qgk ids), Qi0, if_neg hnk, hn]
   exact ⟨_, rfl⟩
 have oldR : ∀ n r, look rows n = some r -> n ∉ ids -> look R' n = some r := by
  intro n r hn hnk
  rw [gr2 n (nor n r hn hnk), Qi0, if_neg hnk, hn]
 -- cells that were there before
 let Q : AC -> Prop := fun a => AC.wf boxes rows a /\ ∀ id ∈ ids, AC.free id a
 have hagree : ∀ a, Q a -> a.agree ρ (Qkq ρ ρ2 mb' mr' bk bi) := by
  rintro a ⟨ha, hf⟩
  have hp : ∀ l : List AC, (∀ a ∈ l, AC.wfP boxes a) -> ∀ a ∈ l, a.agreeP ρ (Qkq ρ ρ2 mb' mr' bk bi) := by
   intro l hl c hc
   have := hl c hc
   cases c <;> first | exact obx _ this | trivial
  cases a with
  | ptr k o => exact obx k ha
  | own id _ _ => obtain ⟨r, h1, _⟩ := ha; exact orv id ⟨r, h1⟩ (fun hm => hf id hm rfl)
  | rptr id _ _ => obtain ⟨r, h1, _⟩ := ha; exact orv id ⟨r, h1⟩ (fun hm => hf id hm rfl)
  | clo f fs cs => exact ⟨hp fs ha.1, hp cs ha.2⟩
  | _ => trivial
 have hcc : ∀ (a : AC) (y : Value), Q a -> CC ρ w a y -> CC (Qkq ρ ρ2 mb' mr' bk bi) w' a y := fun a y hq hy => CC.mono (ρ' := Qkq ρ ρ2 mb' mr' bk bi) him (fun b hb => hold b (fim b hb)) a y (hagree a hq) hy
 have hwfQ : ∀ a, Q a -> AC.wf B' R' a := by
  rintro a ⟨ha, hf⟩
  cases a with
  | ptr k o => obtain ⟨b, hb⟩ := ha; exact oldB k b hb
  | own id _ _ => obtain ⟨r, h1, h2⟩ := ha; exact ⟨r, oldR id r h1 (fun hm => hf id hm rfl), h2⟩
  | rptr id _ _ => obtain ⟨r, h1, h2⟩ := ha; exact ⟨r, oldR id r h1 (fun hm => hf id hm rfl), h2⟩
  | vptr => exact ha
  | clo f fs cs => exact ⟨fun c hc => AC.wfP_mono oldB (ha.1 c hc), fun c hc => AC.wfP_mono oldB (ha.2 c hc)⟩
  | _ => trivial
 have newwf : ∀ a, AC.wf mb' mr' a -> AC.wf B' R' (a.ren bk bi) := fun a ha =>
  ren_wf (Kp := fun k => ∃ b, look mb' k = some b) (Ip := fun i => ∃ r, look mr' i = some r) (fun k _ ⟨b, hb⟩ => ⟨_, gb1 k b hb⟩) (fun i r _ hr => ⟨r, gr1 i r hr, rfl, rfl⟩) (AC.nm_of_wf ha) ha
 have fTV : ∀ v ∈ tm.map (killAll ids), TV.wf boxes rows v /\ ∀ id ∈ ids, TV.free id v := by
  intro v hv
  simp only [List.mem_map] at hv
  obtain ⟨u, hu, rfl⟩ := hv
  exact ⟨killAll_wf ids (hR.wt u hu), fun id hid => killAll_free ids u id hid⟩
 have qTV : ∀ v ∈ tm.map (killAll ids), (match v with | .v _ cs => ∀ a ∈ cs, Q a | .tup ps => ∀ p ∈ ps, ∀ a ∈ p.2, Q a | .dead => True) := by
  intro v hv
  obtain ⟨h1, h2⟩ := fTV v hv
  cases v with
  | dead => trivial
  | v g cs => exact fun a ha => ⟨h1 a ha, fun id hid => h2 id hid a ha⟩
  | tup ps => exact fun p hp a ha => ⟨h1 p hp a ha, fun id hid => h2 id hid p hp a ha⟩
 have qB : ∀ n b0, look boxes n = some b0 -> ∀ a ∈ (Qgk ids b0).cells, Q a := fun n b0 hn a ha => ⟨killBox_wf ids (hR.wb n b0 hn) a ha, fun id hid => killBox_free ids b0 id hid a ha⟩
 have hvwf : TV.wf mb' mr' v := hR2.wt v (by simp)
 refine ⟨⟨by simpa using hR.tl, fun i v hi => ?_, fun v hv => ?_, fun n b hn a ha => ?_, fun n b hn => ?_, fun n n' b b' hn hn' he => ?_, fun n r hn => ?_, fun n n' r r' g hn hn' hg hg' => ?_, fun n b m r hn hm => ?_, fun b hb => ⟨(hR2.ib b hb).1, fun n bo hn => ?_, fun n r hn => ?_⟩, ?_, ?_, fun b hb => him b (hR.i0 b hb), fun b hb => ?_, fun k b hk => ?_⟩, ?_, ?_⟩
 ·have hv := List.mem_of_getElem? hi
  simp only [List.getElem?_map, Option.map_eq_some_iff] at hi
  obtain ⟨u, hu, rfl⟩ := hi
  exact TVR.mono2 hcc (qTV _ hv) (killAll_TVR ids (hR.tv i u hu))
 ·have := qTV v hv
  cases v with
  | dead => trivial
  | v g cs => exact fun a ha => hwfQ a (this a ha)
  | tup ps => exact fun p hp a ha => hwfQ a (this p hp a ha)
 ·rcases caseB n b hn with ⟨k, b0, h1, rfl, rfl⟩ | ⟨hnk, b0, h1, rfl⟩
  ·simp only [List.mem_map] at ha
   obtain ⟨c, hc, rfl⟩ := ha
   exact newwf c (hR2.wb k b0 h1 c hc)
  ·exact hwfQ a (qB n b0 h1 a ha)
 ·rcases caseB n b hn with ⟨k, b0, h1, rfl, rfl⟩ | ⟨hnk, b0, h1, rfl⟩
  ·obtain ⟨arr, q1, q2, q3⟩ := hR2.bx k b0 h1
   refine ⟨arr, by rw [ebx k ⟨b0, h1⟩]; exact q1, ren_CL (Kp := fun k => ∃ b, look mb' k = some b) (Ip := fun i => ∃ r, look mr' i = some r) ebx erv rfl (fun c hc => AC.nm_of_wf (hR2.wb k b0 h1 c hc)) q2, ?_⟩
   rw [ebx k ⟨b0, h1⟩]
   exact fun hf => q3 (fz _ hf)
  ·obtain ⟨arr, q1, q2, q3⟩ := hR.bx n b0 h1
   rw [obx n ⟨b0, h1⟩]
   refine ⟨arr, by rw [hold _ (fbx n b0 h1 hnk), killBox_ty]; exact q1, ?_, q3⟩
   exact (killBox_CL ids q2).mono fun a ha y hy => hcc a y (qB n b0 h1 a ha) hy
 ·rcases caseB n b hn with ⟨k, b0, h1, rfl, _⟩ | ⟨hnk, b0, h1, _⟩ <;> rcases caseB n' b' hn' with ⟨k', b0', h1', rfl, _⟩ | ⟨hnk', b0', h1', _⟩
  ·rw [ebx k ⟨b0, h1⟩, ebx k' ⟨b0', h1'⟩] at he
   rw [hR2.bi k k' _ _ h1 h1' he]
  ·rw [ebx k ⟨b0, h1⟩, obx n' ⟨b0', h1'⟩] at he
   obtain ⟨_, _, _, q3⟩ := hR2.bx k b0 h1
   exact absurd (he ▸ fbx n' b0' h1' hnk') q3
  ·rw [obx n ⟨b0, h1⟩, ebx k' ⟨b0', h1'⟩] at he
   obtain ⟨_, _, _, q3⟩ := hR2.bx k' b0' h1'
   exact absurd (he ▸ fbx n b0 h1 hnk) q3
  ·rw [obx n ⟨b0, h1⟩, obx n' ⟨b0', h1'⟩] at he
   exact hR.bi n n' _ _ h1 h1' he
 ·rcases caseR n r hn with ⟨k, h1, rfl⟩ | ⟨hnk, h1⟩
  ·obtain ⟨q1, q2, q0, ys, q3, q4⟩ := hR2.ro k r h1
   obtain ⟨e1, e2⟩ := erv k ⟨r, h1⟩
   rw [e1, e2]
   exact ⟨q1, q2, fun g hg hf => q0 g hg (fz g hf), ys, q3, q4⟩
  ·obtain ⟨q1, q2, q0, ys, q3, q4⟩ := hR.ro n r h1
   obtain ⟨e1, e2⟩ := orv n ⟨r, h1⟩ hnk
   rw [e1, e2]
   exact ⟨q1, q2, q0, ys, Qml q3 fun g hg => hold g (frv n r g h1 hnk hg), q4.mono him (fun b hb => hold b (fim b hb))⟩
 ·rcases caseR n r hn with ⟨k, h1, rfl⟩ | ⟨hnk, h1⟩ <;> rcases caseR n' r' hn' with ⟨k', h1', rfl⟩ | ⟨hnk', h1'⟩
  ·rw [(erv k ⟨r, h1⟩).1] at hg; rw [(erv k' ⟨r', h1'⟩).1] at hg'
   rw [hR2.ri k k' _ _ g h1 h1' hg hg']
  ·rw [(erv k ⟨r, h1⟩).1] at hg; rw [(orv n' ⟨r', h1'⟩ hnk').1] at hg'
   obtain ⟨_, _, q0, _⟩ := hR2.ro k r h1
   exact absurd (frv n' r' g h1' hnk' hg') (q0 g hg)
  ·rw [(orv n ⟨r, h1⟩ hnk).1] at hg; rw [(erv k' ⟨r', h1'⟩).1] at hg'
   obtain ⟨_, _, q0, _⟩ := hR2.ro k' r' h1'
   exact absurd (frv n r g h1 hnk hg) (q0 g hg')
  ·rw [(orv n ⟨r, h1⟩ hnk).1] at hg; rw [(orv n' ⟨r', h1'⟩ hnk').1] at hg'
   exact hR.ri n n' _ _ g h1 h1' hg hg'
 ·rcases caseB n b hn with ⟨k, b0, h1, rfl, _⟩ | ⟨hnk, b0, h1, _⟩ <;> rcases caseR m r hm with ⟨k', h1', rfl⟩ | ⟨hmk, h1'⟩
  ·rw [ebx k ⟨b0, h1⟩, (erv k' ⟨r, h1'⟩).1]
   exact hR2.br k b0 k' r h1 h1'
  ·rw [ebx k ⟨b0, h1⟩, (orv m ⟨r, h1'⟩ hmk).1]
   intro e
   obtain ⟨_, _, _, q3⟩ := hR2.bx k b0 h1
   exact q3 (frv m r _ h1' hmk e)
  ·rw [obx n ⟨b0, h1⟩, (erv k' ⟨r, h1'⟩).1]
   intro e
   obtain ⟨_, _, q0, _⟩ := hR2.ro k' r h1'
   exact q0 _ e (fbx n b0 h1 hnk)
  ·rw [obx n ⟨b0, h1⟩, (orv m ⟨r, h1'⟩ hmk).1]
   exact hR.br n b0 m r h1 h1'
 ·rcases caseB n bo hn with ⟨k, b0, h1, rfl, _⟩ | ⟨hnk, b0, h1, _⟩
  ·rw [ebx k ⟨b0, h1⟩]
   exact (hR2.ib b hb).2.1 k b0 h1
  ·rw [obx n ⟨b0, h1⟩]
   rcases him2 b hb with hb2 | hb2
   ·exact (hR.ib b hb2).2.1 n b0 h1
   ·exact fun e => hb2 (e ▸ fbx n b0 h1 hnk)
 ·rcases caseR n r hn with ⟨k, h1, rfl⟩ | ⟨hnk, h1⟩
  ·rw [(erv k ⟨r, h1⟩).1]
   exact (hR2.ib b hb).2.2 k r h1
  ·rw [(orv n ⟨r, h1⟩ hnk).1]
   rcases him2 b hb with hb2 | hb2
   ·exact (hR.ib b hb2).2.2 n r h1
   ·exact fun e => hb2 (frv n r b h1 hnk e)
 ·exact hR.fr.trans ⟨hR2.fr.os, hR2.fr.tape, hR2.fr.output, hR2.fr.size, fun k hk => hold k (fz k hk)⟩
 ·exact fun k hk => Nat.lt_of_lt_of_le (hR.fs k hk) hsz
 ·rcases him2 b hb with hb2 | hb2
  ·exact hR.i1 b hb2
  ·exact .inr fun hf => hb2 (fz b hf)
 ·obtain ⟨q1, bo, q2⟩ := hR.k0 k b hk
  exact ⟨by rw [obx k ⟨bo, q2⟩]; exact q1, oldB k bo q2⟩
 ·have htv : TVR ρ2 w' v x := by simpa using hR2.tv 0 v rfl
  exact ren_TVR (Kp := fun k => ∃ b, look mb' k = some b) (Ip := fun i => ∃ r, look mr' i = some r) ebx erv rfl (TV.nm_of_wf hvwf) htv
 ·exact ren_wfT (Kp := fun k => ∃ b, look mb' k = some b) (Ip := fun i => ∃ r, look mr' i = some r) (fun k _ ⟨b, hb⟩ => ⟨_, gb1 k b hb⟩) (fun i r _ hr => ⟨r, gr1 i r hr, rfl, rfl⟩) (TV.nm_of_wf hvwf) hvwf

theorem noKey_none {α : Type} {l : List (Nat × α)} {k : Nat} (h : noKey l k = true) : look l k = none := by
 unfold noKey at h
 split at h
 ·cases h
 ·assumption

theorem callM_sound (hspec : Qan P C) (hR : RelE Z tm boxes rows ρ tmps w) {o : Oper} {a : Act} {f : FuncId} {args : List TV} {xs : List Value} (h1 : xs.length = args.length)
  (h2 : ∀ (i : Nat) (a : TV) (x : Value), args[i]? = some a -> xs[i]? = some x -> TVR ρ w a x) (h3 : execOp a.eval o = callFunc f xs.toArray) (hwf : ∀ v ∈ args, TV.wf boxes rows v) {K : TV -> St -> Option R} {r : R}
  (h : memK C o.dst (.callM f args) ⟨tm, boxes, rows⟩ K = some r) {next : Act -> World -> Prop} {Q : Exit -> Act -> World -> Prop}
  (hnext : ∀ (v : TV) (tm' : List TV) (boxes' : List (Nat × Box)) (rows' : List (Nat × Row)) (ρ' : Env) (x : Value) (w' : World), K v ⟨tm', boxes', rows'⟩ = some r -> RelE Z tm' boxes' rows' ρ' tmps w' -> TVR ρ' w' v x -> TV.wf boxes' rows' v -> next (a.put o.dst x) w') :
  o.wp P a w next Q := by
 simp only [memK] at h
 split at h
 ·rename_i g hg
  have hsp := hspec f g hg
  simp only [Qay] at h
  generalize hk : reachN boxes 4 (Qcs (cat AC.keys (cat TV.cellsOf args)) []) = keys at h
  generalize hi : idsOf boxes (cat TV.cellsOf args) keys = ids at h
  clear hk hi
  cases hc : (allB (TV.inK keys ids) args && allB (fun k => allB (AC.inK keys ids) (Qgq boxes k)) keys && Qco keys && Qco ids) <;> rw [hc] at h
  ·simp at h
  ·simp only [cond_true] at h
   simp only [Bool.and_eq_true] at hc
   obtain ⟨⟨⟨c1, c2⟩, c3⟩, c4⟩ := hc
   split at h
   ·rename_i mb mr hmb hmr
    have hkd := Qfb.1 c3
    have hidd := Qfb.1 c4
    obtain ⟨v, ⟨mb', mr'⟩, hv, hpc⟩ := hsp.run h
    have hent := enter_rel hR h1 h2 hwf hkd hidd (fun v hv => Qag.1 c1 v hv) (fun k hk => Qag.1 c2 k hk) hmb hmr
    refine callx_wp h3 ((hpc _ w _ xs hent).mono ?_)
    rintro e w' ⟨x, ρ2, he, hR2⟩
    dsimp only at hv
    cases hc2 : (allB (fun p : Nat × Box => Qm7 mb' p.1) mb && Qco (mb'.map (·.1)) && Qco (mr'.map (·.1)) && allB (fun k => noKey boxes (Qi1 keys (Qdq keys mb') (o.dst.getD 0) k)) (Qdq keys mb') && allB (fun k => noKey rows (Qi1 ids (Qdq ids mr') (o.dst.getD 0) k)) (Qdq ids mr') && Nat.ble (Qdq keys mb').length 100 && Nat.ble (Qdq ids mr').length 100) <;> rw [hc2] at hv
    ·simp at hv
    ·simp only [cond_true] at hv
     simp only [Bool.and_eq_true] at hc2
     obtain ⟨⟨⟨⟨⟨⟨_, d2⟩, d3⟩, d4⟩, d5⟩, _⟩, _⟩ := hc2
     obtain ⟨e1, e2, e3⟩ := leave_rel hR hkd hidd hmb hmr hR2 (d := o.dst.getD 0) (Qfb.1 d2) (Qfb.1 d3) (fun k hk => noKey_none (Qag.1 d4 k hk)) (fun k hk => noKey_none (Qag.1 d5 k hk))
     exact ⟨x, he, hnext _ _ _ _ _ x w' hv e1 e2 e3⟩
   ·simp at h
 ·simp at h

theorem RelE.cong {boxes' : List (Nat × Box)} (h : RelE Z tm boxes rows ρ tmps w) (hl : ∀ k, look boxes' k = look boxes k) : RelE Z tm boxes' rows ρ tmps w := by
 have ha : ∀ a, AC.wf boxes rows a -> AC.wf boxes' rows a := fun a => AC.wf_mono (fun k b hk => ⟨b, by rw [hl]; exact hk⟩) (fun k r hk => ⟨r, hk, rfl, rfl⟩)
 exact ⟨h.tl, h.tv, fun v hv => TV.wf_mono ha (h.wt v hv), fun k b hk a ha' => ha a (h.wb k b (by rw [<- hl]; exact hk) a ha'),
  fun k b hk => h.bx k b (by rw [<- hl]; exact hk), fun k k' b b' hk hk' => h.bi k k' b b' (by rw [<- hl]; exact hk) (by rw [<- hl]; exact hk'), h.ro, h.ri,
  fun k b id r hk => h.br k b id r (by rw [<- hl]; exact hk), fun b hb => ⟨(h.ib b hb).1, fun k bo hk => (h.ib b hb).2.1 k bo (by rw [<- hl]; exact hk), (h.ib b hb).2.2⟩,
  h.fr, h.fs, h.i0, h.i1, fun k b hk => ⟨(h.k0 k b hk).1, by rw [hl]; exact (h.k0 k b hk).2⟩⟩

theorem look_updAll {keys : List Nat} (hkd : keys.Nodup) : ∀ {m l : List (Nat × Box)}, (m.map (·.1)).Nodup -> (∀ k ∈ m.map (·.1), base <= k /\ k - base < keys.length) -> (∀ k ∈ keys, ∃ b, look l k = some b) ->
  (∀ k b, look m k = some b -> look (Qh8 keys m l) (nth 0 keys (k - base)) = some b) /\ (∀ n, (∀ k ∈ m.map (·.1), n ≠ nth 0 keys (k - base)) -> look (Qh8 keys m l) n = look l n)
 | [], l, _, _, _ => ⟨fun k b h => by simp [look] at h, fun n _ => rfl⟩
 | (j, c) :: m, l, hd, hi, hn => by
  simp only [List.map_cons, List.nodup_cons] at hd
  have hj := hi j (by simp)
  have hne : ∀ k ∈ m.map (·.1), nth 0 keys (j - base) ≠ nth 0 keys (k - base) := fun k hk e => by
   have hk' := hi k (by simp at hk ⊢; exact .inr hk)
   have e' := congrArg (pos keys) e
   rw [pos_nth hkd hj.2, pos_nth hkd hk'.2] at e'
   have : k = j := by omega
   subst this; exact hd.1 hk
  obtain ⟨y, hy⟩ := hn _ (Qlv hj.2)
  obtain ⟨h1, h2⟩ := look_updAll hkd (m := m) (l := upd l (nth 0 keys (j - base)) c) hd.2 (fun k hk => hi k (by simp at hk ⊢; exact .inr hk)) (fun k hk => by
   by_cases e : k = nth 0 keys (j - base)
   ·subst e; exact ⟨c, Qcb _ _ _ _ hy⟩
   ·rw [Qa2 _ _ _ _ e]; exact hn k hk)
  refine ⟨fun k b hk => ?_, fun n hnn => ?_⟩
  ·simp only [look] at hk
   simp only [Qh8]
   cases hb : Nat.beq j k <;> rw [hb] at hk
   ·exact h1 k b hk
   ·have := Nat.eq_of_beq_eq_true hb; subst this
    simp at hk; subst hk
    rw [h2 _ hne]
    exact Qcb _ _ _ _ hy
  ·simp only [Qh8]
   rw [h2 n (fun k hk => hnn k (by simp at hk ⊢; exact .inr hk))]
   exact Qa2 _ _ _ _ (hnn j (by simp))

theorem calm_ren {rk ri : Nat -> Nat} {a : AC} (h : a.calm = true) : a.ren rk ri = a := by cases a <;> simp [AC.calm] at h <;> rfl
theorem calmL_ren {rk ri : Nat -> Nat} : ∀ {l : List AC}, allB AC.calm l = true -> l.map (AC.ren rk ri) = l
 | [], _ => rfl
 | a :: l, h => by
  rw [Qag] at h
  simp only [List.map_cons]
  rw [calm_ren (h a (by simp)), calmL_ren (Qag.2 fun x hx => h x (by simp [hx]))]
theorem plain_calm {a : AC} (h : a.plain = true) : a.calm = true := by cases a <;> simp [AC.plain] at h <;> rfl
theorem plainB_ren {rk ri : Nat -> Nat} {v : TV} (h : v.plainB = true) : v.ren rk ri = v := by
 cases v with
 | dead => rfl
 | v g cs =>
  simp only [TV.plainB, Qag] at h
  simp only [TV.ren]
  rw [calmL_ren (Qag.2 fun a ha => plain_calm (h a ha))]
 | tup ps =>
  simp only [TV.plainB, Qag] at h
  simp only [TV.ren]
  congr 1
  conv => rhs; rw [<- List.map_id ps]
  apply List.map_congr_left
  intro p hp
  rw [calmL_ren (Qag.2 fun a ha => plain_calm (h p hp a ha))]
  rfl

theorem hasKey_some {α : Type} {l : List (Nat × α)} {k : Nat} (h : Qm7 l k = true) : ∃ b, look l k = some b := by
 unfold Qm7 at h
 split at h
 ·rename_i b hb; exact ⟨b, hb⟩
 ·cases h

theorem callD_look {keys : List Nat} (hkd : keys.Nodup) {mb mb' : List (Nat × Box)} (hmb : subB boxes (fun k => base + pos keys k) (fun i => base + pos [] i) base keys = some mb)
  (h1 : ∀ p ∈ mb, Qm7 mb' p.1 = true) (h2 : ∀ p ∈ mb', Qm7 mb p.1 = true) (h3 : (mb'.map (·.1)).Nodup) (h4 : ∀ p ∈ mb', allB AC.calm p.2.cells = true) (bi : Nat -> Nat) (d : Nat) (k : Nat) :
  look (Qh8 keys mb' boxes) k = look (insB (Qi1 keys [] d) bi mb' ((Qmd keys boxes).map fun p => (p.1, Qgk [] p.2))) k := by
 obtain ⟨b1, b2⟩ := subB_look hmb
 have hin : ∀ k ∈ mb'.map (·.1), base <= k /\ k - base < keys.length := by
  intro k hk
  simp only [List.mem_map] at hk
  obtain ⟨p, hp, rfl⟩ := hk
  obtain ⟨b, hb⟩ := hasKey_some (h2 p hp)
  obtain ⟨i, hi, e⟩ := b2 _ _ hb
  omega
 have hall : ∀ i, i < keys.length -> ∃ b, look mb' (base + i) = some b := by
  intro i hi
  obtain ⟨x, _, q⟩ := b1 i hi
  exact hasKey_some (h1 _ (look_mem' q))
 have hkb : ∀ k ∈ keys, ∃ b, look boxes k = some b := fun k hk => by
  obtain ⟨x, q, _⟩ := b1 (pos keys k) (Qhf hk).1
  rw [(Qhf hk).2] at q; exact ⟨x, q⟩
 have hbk : ∀ k ∈ mb'.map (·.1), Qi1 keys [] d k = nth 0 keys (k - base) := fun k hk => backN_in (hin k hk)
 obtain ⟨u1, u2⟩ := look_updAll (l := boxes) hkd h3 hin hkb
 have hdel : ∀ n, look ((Qmd keys boxes).map fun p => (p.1, Qgk [] p.2)) n = if n ∈ keys then none else look boxes n := by
  intro n
  rw [Qld, Qi0]
  split
  ·rfl
  ·cases look boxes n <;> rfl
 have hinj : ∀ k ∈ mb'.map (·.1), ∀ j ∈ mb'.map (·.1), Qi1 keys [] d k = Qi1 keys [] d j -> k = j := by
  intro k hk j hj e
  rw [hbk k hk, hbk j hj] at e
  have e' := congrArg (pos keys) e
  rw [pos_nth hkd (hin k hk).2, pos_nth hkd (hin j hj).2] at e'
  have := hin k hk
  have := hin j hj
  omega
 rw [insB_eq]
 obtain ⟨v1, v2⟩ := insG_look (rk := Qi1 keys [] d) (g := fun b : Box => (⟨b.ty, b.cells.map (AC.ren (Qi1 keys [] d) bi)⟩ : Box)) (m := mb') (l := (Qmd keys boxes).map fun p => (p.1, Qgk [] p.2)) h3 hinj (fun k hk => by
  rw [hdel, hbk k hk, if_pos (Qlv (hin k hk).2)])
 by_cases hk : k ∈ keys
 ·obtain ⟨hp, hn⟩ := Qhf hk
  obtain ⟨b, hb⟩ := hall _ hp
  have e1 := u1 _ b hb
  have e2 := v1 _ b hb
  rw [hbk _ (look_keys.2 ⟨b, hb⟩)] at e2
  rw [show base + pos keys k - base = pos keys k from by omega, hn] at e1 e2
  rw [e1, e2]
  have := h4 _ (look_mem' hb)
  rw [calmL_ren this]
 ·rw [u2 k (fun j hj e => hk (by rw [e]; exact Qlv (hin j hj).2)), v2 k (fun j hj e => hk (by rw [e, hbk j hj]; exact Qlv (hin j hj).2)), hdel, if_neg hk]

theorem callD_sound (hspec : Qan P C) (hR : RelE Z tm boxes rows ρ tmps w) {o : Oper} {a : Act} {f : FuncId} {args : List TV} {xs : List Value} (h1 : xs.length = args.length)
  (h2 : ∀ (i : Nat) (a : TV) (x : Value), args[i]? = some a -> xs[i]? = some x -> TVR ρ w a x) (h3 : execOp a.eval o = callFunc f xs.toArray) (hwf : ∀ v ∈ args, TV.wf boxes rows v) {K : TV -> St -> Option R} {r : R}
  (h : memK C o.dst (.callD f args) ⟨tm, boxes, rows⟩ K = some r) {next : Act -> World -> Prop} {Q : Exit -> Act -> World -> Prop}
  (hnext : ∀ (v : TV) (tm' : List TV) (boxes' : List (Nat × Box)) (rows' : List (Nat × Row)) (ρ' : Env) (x : Value) (w' : World), K v ⟨tm', boxes', rows'⟩ = some r -> RelE Z tm' boxes' rows' ρ' tmps w' -> TVR ρ' w' v x -> TV.wf boxes' rows' v -> next (a.put o.dst x) w') :
  o.wp P a w next Q := by
 simp only [memK] at h
 split at h
 ·rename_i g hg
  have hsp := hspec f g hg
  simp only [Qay] at h
  generalize hk : Qcs (cat AC.keys (cat TV.cellsOf args)) [] = keys at h
  clear hk
  cases hc : (allB (TV.inK keys []) args && allB (fun k => allB AC.calm (Qgq boxes k)) keys && Qco keys) <;> rw [hc] at h
  ·simp at h
  ·simp only [cond_true] at h
   simp only [Bool.and_eq_true] at hc
   obtain ⟨⟨c1, c2⟩, c3⟩ := hc
   have c2' : allB (fun k => allB (AC.inK keys []) (Qgq boxes k)) keys = true := by
    rw [Qag] at c2 ⊢
    intro k hk
    have := c2 k hk
    rw [Qag] at this ⊢
    intro b hb
    have := this b hb
    cases b <;> simp [AC.calm] at this <;> rfl
   split at h
   ·rename_i mb hmb
    have hkd := Qfb.1 c3
    obtain ⟨v, ⟨mb', mr'⟩, hv, hpc⟩ := hsp.run h
    have hent := enter_rel hR h1 h2 hwf hkd List.nodup_nil (fun v hv => Qag.1 c1 v hv) (fun k hk => Qag.1 c2' k hk) hmb (show subR rows base [] = some [] from rfl)
    refine callx_wp h3 ((hpc _ w _ xs hent).mono ?_)
    rintro e w' ⟨x, ρ2, he, hR2⟩
    cases mr' with
    | cons _ _ => simp at hv
    | nil =>
     dsimp only at hv
     cases hc2 : (allB (fun p : Nat × Box => Qm7 mb' p.1) mb && allB (fun p : Nat × Box => Qm7 mb p.1) mb' && Qco (mb'.map (·.1)) && allB (fun p : Nat × Box => allB AC.calm p.2.cells) mb' && v.plainB) <;> rw [hc2] at hv
     ·simp at hv
     ·simp only [cond_true] at hv
      simp only [Bool.and_eq_true] at hc2
      obtain ⟨⟨⟨⟨d1, d2⟩, d3⟩, d4⟩, d5⟩ := hc2
      have hfr : Qdq keys mb' = [] := by
       apply List.eq_nil_iff_forall_not_mem.2
       intro k hk
       obtain ⟨q1, q2⟩ := Qkb.1 hk
       simp only [List.mem_map] at q1
       obtain ⟨p, hp, rfl⟩ := q1
       obtain ⟨b, hb⟩ := hasKey_some (Qag.1 d2 p hp)
       obtain ⟨i, hi, e⟩ := (subB_look hmb).2 _ _ hb
       exact q2 (by omega)
      obtain ⟨e1, e2, e3⟩ := leave_rel hR hkd List.nodup_nil hmb (show subR rows base [] = some [] from rfl) hR2 (d := o.dst.getD 0) (Qfb.1 d3) List.nodup_nil (fun k hk => by rw [hfr] at hk; simp at hk) (fun k hk => by simp [Qdq] at hk)
      rw [hfr] at e1 e2 e3
      have hlk := callD_look hkd hmb (Qag.1 d1) (Qag.1 d2) (Qfb.1 d3) (Qag.1 d4) (Qi1 [] (Qdq [] ([] : List (Nat × Row))) (o.dst.getD 0)) (o.dst.getD 0)
      have e1' := e1.cong hlk
      have htm : tm.map (killAll []) = tm := by
       conv => rhs; rw [<- List.map_id tm]
       rfl
      rw [htm] at e1'
      rw [plainB_ren d5] at e2
      exact ⟨x, he, hnext _ _ _ _ _ x w' hv e1' e2 (plainB_wf d5)⟩
   ·simp at h
 ·simp at h

theorem plainL_inK {keys ids : List Nat} {v : TV} (h : v.plainB = true) : TV.inK keys ids v = true := by
 cases v with
 | dead => rfl
 | v g cs =>
  simp only [TV.plainB, TV.inK] at h ⊢
  rw [Qag] at h ⊢
  intro a ha
  have := h a ha
  cases a <;> simp [AC.plain] at this <;> rfl
 | tup ps =>
  simp only [TV.plainB, TV.inK] at h ⊢
  rw [Qag] at h ⊢
  intro p hp
  have := h p hp
  rw [Qag] at this ⊢
  intro a ha
  have := this a ha
  cases a <;> simp [AC.plain] at this <;> rfl
theorem plainArgs_ren {rk ri : Nat -> Nat} : ∀ {args : List TV}, allB TV.plainB args = true -> args.map (TV.ren rk ri) = args
 | [], _ => rfl
 | a :: l, h => by
  simp only [allB] at h
  obtain ⟨h1, h2⟩ := cond_none' h
  simp only [List.map_cons]
  rw [plainB_ren h1, plainArgs_ren h2]
where cond_none' {c p : Bool} (h : cond c p false = true) : c = true /\ p = true := by cases c <;> simp at h; exact ⟨rfl, h⟩
theorem blt_zero (x : Nat) : x.blt 0 = false := rfl
theorem freshN_one (j : Nat) (r : Row) : Qdq [] [(j, r)] = [j] := by
 have hblt : (base.ble j && (j - base).blt 0) = false := by
  rw [blt_zero, Bool.and_false]
 unfold Qdq
 simp only [List.length_nil, hblt, cond_false]
 rfl
theorem backN_one (j d : Nat) : Qi1 [] [j] d j = mkKey d := by
 have hblt : (base.ble j && (j - base).blt 0) = false := by
  rw [blt_zero, Bool.and_false]
 unfold Qi1 mkKey
 simp only [List.length_nil, hblt, cond_false, pos, Nat.beq_refl, cond_true, Nat.add_zero]
theorem callF_sound (hspec : Qan P C) (hR : RelE Z tm boxes rows ρ tmps w) {o : Oper} {a : Act} {f : FuncId} {args : List TV} {xs : List Value} (h1 : xs.length = args.length)
  (h2 : ∀ (i : Nat) (a : TV) (x : Value), args[i]? = some a -> xs[i]? = some x -> TVR ρ w a x) (h3 : execOp a.eval o = callFunc f xs.toArray) (hwf : ∀ v ∈ args, TV.wf boxes rows v) {K : TV -> St -> Option R} {r : R}
  (h : memK C o.dst (.callF f args) ⟨tm, boxes, rows⟩ K = some r) {next : Act -> World -> Prop} {Q : Exit -> Act -> World -> Prop}
  (hnext : ∀ (v : TV) (tm' : List TV) (boxes' : List (Nat × Box)) (rows' : List (Nat × Row)) (ρ' : Env) (x : Value) (w' : World), K v ⟨tm', boxes', rows'⟩ = some r -> RelE Z tm' boxes' rows' ρ' tmps w' -> TVR ρ' w' v x -> TV.wf boxes' rows' v -> next (a.put o.dst x) w') :
  o.wp P a w next Q := by
 simp only [memK] at h
 split at h
 ·rename_i g hg
  have hsp := hspec f g hg
  cases hpl : allB TV.plainB args <;> rw [hpl] at h
  ·simp at h
  simp only [cond_true] at h
  obtain ⟨v, ⟨mb', mr'⟩, hv, hpc⟩ := hsp.run h
  have hent := enter_rel hR h1 h2 hwf List.nodup_nil List.nodup_nil (keys := []) (ids := []) (fun v hv => plainL_inK (Qag.1 hpl v hv)) (fun k hk => by simp at hk) (show subB boxes _ _ base [] = some [] from rfl) (show subR rows base [] = some [] from rfl)
  rw [plainArgs_ren hpl] at hent
  refine callx_wp h3 ((hpc _ w _ xs hent).mono ?_)
  rintro e w' ⟨x, ρ2, he, hR2⟩
  have htm : tm.map (killAll []) = tm := by
   conv => rhs; rw [<- List.map_id tm]
   rfl
  have hbx : (Qmd [] boxes).map (fun p => (p.1, Qgk [] p.2)) = boxes := by
   conv => rhs; rw [<- List.map_id boxes]
   rfl
  cases mb' with
  | cons _ _ => simp at hv
  | nil =>
  have hlv : (mr'.map (·.1)).Nodup -> (∀ k ∈ Qdq [] mr', look rows (Qi1 [] (Qdq [] mr') (o.dst.getD 0) k) = none) -> _ := fun d1 d2 =>
   leave_rel hR List.nodup_nil List.nodup_nil (show subB boxes _ _ base [] = some [] from rfl) (show subR rows base [] = some [] from rfl) hR2 (d := o.dst.getD 0) (by simp) d1 (fun k hk => by simp [Qdq] at hk) d2
  cases mr' with
  | nil =>
   dsimp only at hv
   cases hvp : v.plainB <;> rw [hvp] at hv
   ·simp at hv
   simp only [cond_true] at hv
   obtain ⟨e1, e2, e3⟩ := hlv (by simp) (fun k hk => by simp [Qdq] at hk)
   rw [htm, hbx] at e1
   rw [plainB_ren hvp] at e2
   exact ⟨x, he, hnext _ _ _ _ _ x w' hv e1 e2 (plainB_wf hvp)⟩
  | cons p l =>
   obtain ⟨k, rw0⟩ := p
   cases l with
   | cons _ _ => simp at hv
   | nil =>
    dsimp only at hv
    split at hv
    ·rename_i j w0 n0
     cases hjk : Nat.beq j k <;> rw [hjk] at hv
     ·simp at hv
     simp only [cond_true] at hv
     have hjk := Nat.eq_of_beq_eq_true hjk
     subst hjk
     split at hv
     ·simp at hv
     rename_i hnone
     simp only [Qay] at hv
     have hf := freshN_one j rw0
     have hb := backN_one j (o.dst.getD 0)
     obtain ⟨e1, e2, e3⟩ := hlv (by simp) (fun k hk => by
      rw [hf] at hk ⊢
      simp at hk; subst hk
      rw [hb]; exact hnone)
     rw [htm, hbx] at e1
     rw [hbx] at e3
     have hwv := hR2.wt (.v false [.own j w0 n0]) (by simp) (.own j w0 n0) (by simp)
     obtain ⟨r1, hr1, hn1, hw1⟩ := hwv
     simp only [look, Nat.beq_refl, cond_true, Option.some.injEq] at hr1
     subst hr1
     have hren : TV.ren (Qi1 [] (Qdq ([] : List Nat) ([] : List (Nat × Box))) (o.dst.getD 0)) (Qi1 [] (Qdq [] [(j, rw0)]) (o.dst.getD 0)) (.v false [.own j w0 n0]) = .c (.own (mkKey (o.dst.getD 0)) rw0.ks.length rw0.l.length) := by
      simp only [TV.ren, List.map_cons, List.map_nil, AC.ren, hf, hb]
      rw [<- hw1, <- hn1]
     have hins : insR (Qi1 [] (Qdq [] [(j, rw0)]) (o.dst.getD 0)) [(j, rw0)] (Qmd [] rows) = ins rows (mkKey (o.dst.getD 0)) rw0 := by
      simp only [insR, hf, hb, Qmd]
     have e1' := e1
     rw [hins] at e1'
     have e2' := e2
     rw [hren] at e2'
     have e3' := e3
     rw [hren, hins] at e3'
     exact ⟨x, he, hnext _ _ _ _ _ x w' hv e1' e2' e3'⟩
    ·simp at hv
 ·simp at h
end
end Go.Bm
