/- The abstract machine: how a law's arguments are opened and its row is shut, whatever the law. -/
import Derived.Test.YtbhinbhppddifaaAmStep
import Derived.ProofKit
import Derived.Below
import Derived.OpenShut
import Derived.ChangeSame
import Derived.Deep.Slices
namespace Go.Am
open Go.RowKit Go.WideShapes Go.ChangeShapes

inductive Kd where
  | int (k : IntKind)
  | bool

def fieldsK (P : Program) (g : TypeId → Option (List Kd)) : List Field → Nat → Option (List Kd)
  | [], _ => some []
  | f :: fs, o => match g f.type with
    | some ks => bif Nat.beq f.offset o && Nat.beq (P.cellsOf f.type) ks.length then (fieldsK P g fs (o + ks.length)).map (ks ++ ·) else none
    | none => none

/-- the kinds of a type's cells, where it has no memory of its own -/
def flatK (P : Program) : Nat → TypeId → Option (List Kd)
  | 0, _ => none
  | n + 1, t => match P.underlying t with
    | some .bool => some [.bool]
    | some (.int k) => some [.int k]
    | some (.struct fs) => (fieldsK P (flatK P n) fs.toList 0).bind fun ks => bif Nat.beq (P.cellsOf t) ks.length then some ks else none
    | some (.array m e) => (flatK P n e).bind fun ks => bif Nat.beq (P.cellsOf e) ks.length && Nat.beq (P.cellsOf t) (m * ks.length) then some (List.replicate m ks).flatten else none
    | _ => none

def Fits : List Kd → List Value → Prop
  | [], [] => True
  | .int k :: ks, v :: vs => (∃ n, v = .int k n ∧ (Lit.int k n).wf = true) ∧ Fits ks vs
  | .bool :: ks, v :: vs => (∃ b, v = .bool b) ∧ Fits ks vs
  | _, _ => False

theorem Fits.length : ∀ {ks : List Kd} {vs : List Value}, Fits ks vs → vs.length = ks.length
  | [], [], _ => rfl
  | .int _ :: _, _ :: _, h => by simp [Fits.length h.2]
  | .bool :: _, _ :: _, h => by simp [Fits.length h.2]
  | [], _ :: _, h => h.elim
  | .int _ :: _, [], h => h.elim
  | .bool :: _, [], h => h.elim

theorem Fits.append : ∀ {ks ls : List Kd} {vs us : List Value}, Fits ks vs → Fits ls us → Fits (ks ++ ls) (vs ++ us)
  | [], _, [], _, _, h => h
  | .int _ :: _, _, _ :: _, _, h, h' => ⟨h.1, Fits.append h.2 h'⟩
  | .bool :: _, _, _ :: _, _, h, h' => ⟨h.1, Fits.append h.2 h'⟩
  | [], _, _ :: _, _, h, _ => h.elim
  | .int _ :: _, _, [], _, h, _ => h.elim
  | .bool :: _, _, [], _, h, _ => h.elim

section
variable {H : Type} {enc : TypeId × Value → H} {P : Program} {w : World} {base : Nat} {spare : Nat → Bool} {held : Bool}

theorem fits_fields {g : TypeId → Option (List Kd)} {m : Nat} (hg : ∀ (t : TypeId) (ks : List Kd) (cs : List Value) (x : DataW H × List MemPlace), g t = some ks → DataW.trod enc P w base spare held m t cs = some x → Fits ks cs) :
    ∀ (fs : List Field) (o : Nat) (ks : List Kd) (cs : List Value), fieldsK P g fs o = some ks → cs.length = o + ks.length →
      (∀ f ∈ fs, ∃ x, DataW.trod enc P w base spare held m f.type ((cs.drop f.offset).take (P.cellsOf f.type)) = some x) → Fits ks (cs.drop o)
  | [], o, ks, cs, h, hl, _ => by
    simp [fieldsK] at h; subst h
    have : cs.drop o = [] := by apply List.drop_eq_nil_of_le; simp at hl; omega
    rw [this]; trivial
  | f :: fs, o, ks, cs, h, hl, hx => by
    simp only [fieldsK] at h
    split at h
    · rename_i k1 hk1
      cases hc : (Nat.beq f.offset o && Nat.beq (P.cellsOf f.type) k1.length) <;> rw [hc] at h
      · simp at h
      · simp only [cond_true, Option.map_eq_some_iff] at h
        obtain ⟨k2, h2, rfl⟩ := h
        simp only [Bool.and_eq_true] at hc
        have e1 : f.offset = o := Nat.eq_of_beq_eq_true hc.1
        have e2 : P.cellsOf f.type = k1.length := Nat.eq_of_beq_eq_true hc.2
        obtain ⟨x, hx1⟩ := hx f (by simp)
        have f1 := hg _ _ _ _ hk1 hx1
        rw [e1, e2] at f1
        have f2 := fits_fields hg fs (o + k1.length) k2 cs h2 (by simp at hl; omega) (fun f' hf' => hx f' (by simp [hf']))
        have : cs.drop o = (cs.drop o).take k1.length ++ cs.drop (o + k1.length) := by
          rw [← List.drop_drop, List.take_append_drop]
        rw [this]
        exact Fits.append f1 f2
    · cases h

theorem fits_rows {ks : List Kd} : ∀ (m : Nat) (cs : List Value), cs.length = m * ks.length → (∀ i, i < m → Fits ks ((cs.drop (i * ks.length)).take ks.length)) → Fits (List.replicate m ks).flatten cs
  | 0, cs, hl, _ => by
    have : cs = [] := by simpa using hl
    subst this; simp [Fits]
  | m + 1, cs, hl, h => by
    have h0 := h 0 (by omega)
    simp at h0
    have : cs = cs.take ks.length ++ cs.drop ks.length := (List.take_append_drop _ _).symm
    rw [this, List.replicate_succ, List.flatten_cons]
    refine Fits.append h0 (fits_rows m _ ?_ fun i hi => ?_)
    · simp [hl, Nat.succ_mul]
    · have := h (i + 1) (by omega)
      rw [List.drop_drop]
      rw [Nat.succ_mul, Nat.add_comm] at this
      exact this

theorem fits_of_trod : ∀ (n : Nat) (m : Nat) (t : TypeId) (ks : List Kd) (cs : List Value) (x : DataW H × List MemPlace), flatK P n t = some ks → DataW.trod enc P w base spare held m t cs = some x → Fits ks cs
  | 0, _, _, _, _, _, h, _ => by simp [flatK] at h
  | n + 1, m, t, ks, cs, x, h, hx => by
    unfold flatK at h
    split at h
    · rename_i hu
      simp at h; subst h
      obtain ⟨b, rfl, _⟩ := DataW.trod_bool hu hx
      exact ⟨⟨b, rfl⟩, trivial⟩
    · rename_i k hu
      simp at h; subst h
      obtain ⟨i, rfl, _, hw⟩ := DataW.trod_int hu hx
      exact ⟨⟨i, rfl, hw⟩, trivial⟩
    · rename_i fs hu
      obtain ⟨xs, m', rfl, _, hlen, hxl, hf⟩ := DataW.trod_struct hu hx
      simp only [Option.bind_eq_some_iff] at h
      obtain ⟨k1, h1, h2⟩ := h
      cases hc : Nat.beq (P.cellsOf t) k1.length <;> rw [hc] at h2
      · simp at h2
      · simp at h2; subst h2
        have e := Nat.eq_of_beq_eq_true hc
        have := fits_fields (fun t ks cs x => fits_of_trod n m' t ks cs x) fs.toList 0 k1 cs h1 (by omega) (fun f hf' => by
          obtain ⟨i, hi⟩ := List.mem_iff_getElem?.1 hf'
          have hi' : fs[i]? = some f := by simpa using hi
          have := hf i f hi'
          have hil : i < fs.size := by
            have := (Array.getElem?_eq_some_iff.1 hi').1
            exact this
          rw [this, List.getElem?_eq_getElem (by omega)]
          exact ⟨_, rfl⟩)
        simpa using this
    · rename_i k e hu
      obtain ⟨xs, m', rfl, _, hlen, hxl, hf⟩ := DataW.trod_array hu hx
      simp only [Option.bind_eq_some_iff] at h
      obtain ⟨k1, h1, h2⟩ := h
      cases hc : (Nat.beq (P.cellsOf e) k1.length && Nat.beq (P.cellsOf t) (k * k1.length)) <;> rw [hc] at h2
      · simp at h2
      · simp at h2; subst h2
        simp only [Bool.and_eq_true] at hc
        have e1 := Nat.eq_of_beq_eq_true hc.1
        have e2 := Nat.eq_of_beq_eq_true hc.2
        refine fits_rows k cs (by omega) fun i hi => ?_
        have := hf i hi
        rw [e1] at this
        refine fits_of_trod n m' e k1 _ (xs[i]'(by omega)) h1 ?_
        rw [this, List.getElem?_eq_getElem]
    · cases h
end

def cellsK : List Kd → Nat → (Nat → Int) → (Nat → Bool) → List AC
  | [], _, _, _ => []
  | .int k :: ks, i, gi, gb => .int k (gi i) :: cellsK ks (i + 1) gi gb
  | .bool :: ks, i, gi, gb => .bool (gb i) :: cellsK ks (i + 1) gi gb

def okK : List Kd → Nat → (Nat → Int) → Prop
  | [], _, _ => True
  | .int k :: ks, i, gi => (k.min ≤ gi i ∧ gi i ≤ k.max) ∧ okK ks (i + 1) gi
  | .bool :: ks, i, gi => okK ks (i + 1) gi

theorem cellsK_length : ∀ (ks : List Kd) (i : Nat) (gi : Nat → Int) (gb : Nat → Bool), (cellsK ks i gi gb).length = ks.length
  | [], _, _, _ => rfl
  | .int _ :: ks, _, _, _ => by simp [cellsK, cellsK_length ks]
  | .bool :: ks, _, _, _ => by simp [cellsK, cellsK_length ks]

def numAt (l : List Value) (j : Nat) : Int := match l[j]? with
  | some (.int _ n) => n
  | _ => 0
def bitAt (l : List Value) (j : Nat) : Bool := match l[j]? with
  | some (.bool b) => b
  | _ => false

theorem fits_cells {im : Nat → Prop} {w : World} : ∀ {ks : List Kd} {vs : List Value} (pre : List Value), Fits ks vs →
    okK ks pre.length (numAt (pre ++ vs)) ∧ CL (CP im w) (cellsK ks pre.length (numAt (pre ++ vs)) (bitAt (pre ++ vs))) vs
  | [], [], _, _ => ⟨trivial, trivial⟩
  | .int k :: ks, v :: vs, pre, h => by
    obtain ⟨⟨n, rfl, hw⟩, h2⟩ := h
    have ih := fits_cells (im := im) (w := w) (pre ++ [.int k n]) h2
    simp only [List.length_append, List.length_singleton, List.append_assoc, List.singleton_append] at ih
    have e : numAt (pre ++ .int k n :: vs) pre.length = n := by simp [numAt]
    refine ⟨⟨?_, ih.1⟩, ?_, ih.2⟩
    · rw [e]
      simpa [Lit.wf] using hw
    · show CP im w (.int k _) _
      rw [e]; simp [CP]
  | .bool :: ks, v :: vs, pre, h => by
    obtain ⟨⟨n, rfl⟩, h2⟩ := h
    have ih := fits_cells (im := im) (w := w) (pre ++ [.bool n]) h2
    simp only [List.length_append, List.length_singleton, List.append_assoc, List.singleton_append] at ih
    have e : bitAt (pre ++ .bool n :: vs) pre.length = n := by simp [bitAt]
    refine ⟨ih.1, ?_, ih.2⟩
    show CP im w (.bool _) _
    rw [e]; simp [CP]
  | [], _ :: _, _, h => h.elim
  | .int _ :: _, [], _, h => h.elim
  | .bool :: _, [], _, h => h.elim

inductive Sh where
  | flat (agg : Bool) (ks : List Kd)
  | sl (ks : List Kd)

def shK (P : Program) (t : TypeId) : Option Sh := match P.underlying t with
  | some (.slice e) => (flatK P 8 e).bind fun ks => bif Nat.beq (P.cellsOf e) ks.length && Nat.blt 0 ks.length then some (.sl ks) else none
  | some (.struct _) => (flatK P 8 t).map (.flat true)
  | some (.array _ _) => (flatK P 8 t).map (.flat true)
  | some (.int k) => some (.flat false [.int k])
  | some .bool => some (.flat false [.bool])
  | _ => none

/-- one argument -/
inductive Ar where
  | flat (agg : Bool) (ks : List Kd) (gi : Nat → Int) (gb : Nat → Bool)
  | sl (ks : List Kd) (n : Nat) (gi : Nat → Nat → Int) (gb : Nat → Nat → Bool)

def Ar.sh : Ar → Sh
  | .flat a ks _ _ => .flat a ks
  | .sl ks _ _ _ => .sl ks

def Ar.ok : Ar → Prop
  | .flat _ ks gi _ => okK ks 0 gi
  | .sl ks n gi _ => n ≤ maxLen ∧ ∀ i, i < n → okK ks 0 (gi i)

def Ar.tv : Ar → TV
  | .flat a ks gi gb => .v a (cellsK ks 0 gi gb)
  | .sl ks n gi gb => .v false [.view n ks.length fun i => cellsK ks 0 (gi i) (gb i)]

theorem CPs_of {im : Nat → Prop} {w : World} : ∀ (cs : List AC) (vs : List Value) (b o : Nat), CL (CP im w) cs vs → (∀ i, i < vs.length → w.cell? ⟨b, o + i, none⟩ = vs[i]?) → CPs im w cs b o
  | [], _, _, _, _, _ => by simp [CPs]
  | c :: cs, v :: vs, b, o, h, hc => by
    simp only [CPs]
    refine ⟨⟨v, by simpa using hc 0 (by simp), h.1⟩, CPs_of cs vs b (o + 1) h.2 fun i hi => ?_⟩
    have := hc (i + 1) (by simp; omega)
    rw [Nat.add_assoc, Nat.add_comm 1 i]
    simpa using this
  | _ :: _, [], _, _, h, _ => h.elim

section
variable {H : Type} {enc : TypeId × Value → H} {P : Program} {W : World}

theorem open_ar {t : TypeId} {v : Value} {d : DataW H} {p : List MemPlace} {r : Reach} {b0 : Nat} {sh : Sh} (hs : shK P t = some sh) (hv : Value.okWide P W r b0 t v)
    (h : DataW.Trod enc P W 0 (fun _ => true) true t v d p) : ∃ a : Ar, a.sh = sh ∧ a.ok ∧ PTV (fun b => b < W.heap.size) W a.tv v := by
  unfold shK at hs
  split at hs
  · rename_i e hu
    simp only [Option.bind_eq_some_iff] at hs
    obtain ⟨ks, hk, hs⟩ := hs
    cases hc : (Nat.beq (P.cellsOf e) ks.length && Nat.blt 0 ks.length) <;> rw [hc] at hs
    · simp at hs
    · simp at hs; subst hs
      simp only [Bool.and_eq_true] at hc
      have e1 := Nat.eq_of_beq_eq_true hc.1
      have e2 : 0 < ks.length := by have := hc.2; simp [Nat.blt] at this; omega
      obtain ⟨a0, len, cap, rfl⟩ := okWide_slice hu hv
      obtain ⟨fuel, hf⟩ := h
      rcases Go.Deep.open_slice hu hf with ⟨hcs, _⟩ | ⟨a, len', cap', m, n, D, Pl, hcs, _, hl, hcm, hm, _, hi⟩
      · simp [Value.cells] at hcs
        obtain ⟨rfl, rfl, rfl⟩ := hcs
        refine ⟨.sl ks 0 (fun _ _ => 0) (fun _ _ => false), rfl, ⟨by omega, fun i hi => by omega⟩, _, rfl, ?_⟩
        simp [CP]
      · simp [Value.cells] at hcs
        obtain ⟨rfl, rfl, rfl⟩ := hcs
        simp at hm; subst hm
        -- the values of each element
        have hex : ∀ i, ∃ vs : List Value, i < len → (W.cells? 0 (a.add (i * P.cellsOf e)) (P.cellsOf e) = some vs ∧ Fits ks vs) := fun i => by
          by_cases hil : i < len
          · obtain ⟨cs', h1, h2⟩ := hi i (by omega)
            exact ⟨cs', fun _ => ⟨h1, fits_of_trod 8 n e ks cs' _ hk h2⟩⟩
          · exact ⟨[], fun h => (hil h).elim⟩
        let vs : Nat → List Value := fun i => Classical.choose (hex i)
        have hvs : ∀ i, i < len → (W.cells? 0 (a.add (i * P.cellsOf e)) (P.cellsOf e) = some (vs i) ∧ Fits ks (vs i)) := fun i => Classical.choose_spec (hex i)
        refine ⟨.sl ks len (fun i => numAt (vs i)) (fun i => bitAt (vs i)), rfl, ⟨by omega, fun i hi => ?_⟩, _, rfl, ?_⟩
        · exact (fits_cells (im := fun _ => True) (w := W) [] (hvs i hi).2).1
        · simp only [CP]
          refine ⟨some a, _, rfl, hl, fun i hil => ?_⟩
          obtain ⟨hc1, hfit⟩ := hvs i hil
          obtain ⟨_, hlen, hat⟩ := World.cells?_some hc1
          -- the address of the first element has a cell: no spot
          have h0 : 0 < len := by omega
          obtain ⟨hc0, hfit0⟩ := hvs 0 h0
          obtain ⟨_, hlen0, hat0⟩ := World.cells?_some hc0
          have h00 := hat0 0 (by omega)
          simp only [Nat.zero_mul] at h00
          have ea : (a.add 0).add 0 = a := by simp [Addr.add]
          rw [ea, List.getElem?_eq_getElem (by omega)] at h00
          have hspot : a.spot = none ∧ a.block < W.heap.size := by
            unfold World.cell? at h00
            split at h00
            · rename_i hb
              split at h00
              · cases h00
              · rename_i hsp
                refine ⟨by simpa using hsp, (Array.getElem?_eq_some_iff.1 hb).1⟩
            · cases h00
          obtain ⟨b, o, sp⟩ := a
          obtain ⟨rfl, hb⟩ := hspot
          refine ⟨b, o, rfl, hb, by rw [cellsK_length], ?_⟩
          refine CPs_of _ (vs i) b _ (fits_cells [] hfit).2 fun j hj => ?_
          rw [← hat j (by omega), e1]
          congr 1
          unfold Addr.add
          by_cases h1 : i * ks.length = 0 <;> by_cases h2 : j = 0 <;> simp [h1, h2, Nat.add_assoc]
  · rename_i fs hu
    simp only [Option.map_eq_some_iff] at hs
    obtain ⟨ks, hk, rfl⟩ := hs
    obtain ⟨cs, rfl, _⟩ := okWide_struct hu hv
    obtain ⟨fuel, hf⟩ := h
    have hfit := fits_of_trod 8 fuel t ks _ _ hk hf
    have := fits_cells (im := fun b => b < W.heap.size) (w := W) [] hfit
    exact ⟨.flat true ks (numAt cs.toList) (bitAt cs.toList), rfl, this.1, cs, rfl, this.2⟩
  · rename_i k e hu
    simp only [Option.map_eq_some_iff] at hs
    obtain ⟨ks, hk, rfl⟩ := hs
    obtain ⟨cs, rfl, _⟩ : ∃ cs, v = .agg cs ∧ cs.size = P.cellsOf t := by
      simp only [Value.okWide, hu] at hv
      obtain ⟨cs, h1, h2, _⟩ := hv
      exact ⟨cs, h1, h2⟩
    obtain ⟨fuel, hf⟩ := h
    have hfit := fits_of_trod 8 fuel t ks _ _ hk hf
    have := fits_cells (im := fun b => b < W.heap.size) (w := W) [] hfit
    exact ⟨.flat true ks (numAt cs.toList) (bitAt cs.toList), rfl, this.1, cs, rfl, this.2⟩
  · rename_i k hu
    simp at hs; subst hs
    obtain ⟨n, rfl, _, _, hw⟩ := open_int hu hv h
    refine ⟨.flat false [.int k] (fun _ => n) (fun _ => false), rfl, ⟨by simpa [Lit.wf] using hw, trivial⟩, _, rfl, ?_⟩
    simp [CP]
  · rename_i hu
    simp at hs; subst hs
    obtain ⟨n, rfl, _, _⟩ := open_bool hu hv h
    refine ⟨.flat false [.bool] (fun _ => 0) (fun _ => n), rfl, trivial, _, rfl, ?_⟩
    simp [CP]
  · cases hs

theorem open_ars {r : Reach} {b0 : Nat} : ∀ (ts : List TypeId) (vs : List Value) (ds : List (DataW H)) (p : List MemPlace) (shs : List Sh), ts.map (shK P) = shs.map some →
    (∀ (j : Nat) (t : TypeId) (v : Value), ts[j]? = some t → vs[j]? = some v → Value.okWide P W r b0 t v) → DataW.TrodAll enc P W 0 (fun _ => true) true ts vs ds p →
    ∃ as : List Ar, as.map Ar.sh = shs ∧ (∀ a ∈ as, a.ok) ∧ vs.length = as.length ∧ ∀ (i : Nat) (a : Ar) (x : Value), as[i]? = some a → vs[i]? = some x → PTV (fun b => b < W.heap.size) W a.tv x
  | [], vs, ds, p, shs, hs, _, h => by
    obtain ⟨rfl, rfl, rfl⟩ := trodAll_nil h
    cases shs with
    | nil => exact ⟨[], rfl, by simp, rfl, by simp⟩
    | cons => simp at hs
  | t :: ts, vs, ds, p, shs, hs, hv, h => by
    obtain ⟨v, vs1, d, ds1, a, b, rfl, rfl, rfl, h1, h2⟩ := trodAll_cons h
    cases shs with
    | nil => simp at hs
    | cons sh shs =>
      simp only [List.map_cons, List.cons.injEq] at hs
      obtain ⟨as, e1, e2, e3, e4⟩ := open_ars ts vs1 ds1 b shs hs.2 (fun j t v ht hvv => hv (j + 1) t v (by simpa using ht) (by simpa using hvv)) h2
      obtain ⟨a, ha, hok, hp⟩ := open_ar hs.1 (hv 0 t v rfl rfl) h1
      refine ⟨a :: as, by simp [ha, e1], ?_, by simp [e3], ?_⟩
      · intro x hx
        rcases List.mem_cons.1 hx with rfl | hx
        · exact hok
        · exact e2 x hx
      · intro i a' x h1 h2
        cases i with
        | zero => simp at h1 h2; subst h1; subst h2; exact hp
        | succ i => exact e4 i a' x (by simpa using h1) (by simpa using h2)

theorem stays_all (hl : laidOutB P = true) {W' : World} (hb : Below W.heap.size W W') {sp : Nat → Bool} : ∀ (ts : List TypeId) (vs : List Value) (ds : List (DataW H)) (p : List MemPlace),
    ts.all (fun t => P.readableRec t && decide (t < P.types.size)) = true → (∀ x ∈ p, x.block < W.heap.size ∧ sp x.block = true) → DataW.TrodAll enc P W 0 (fun _ => true) true ts vs ds p →
    DataW.TrodAll enc P W' 0 sp true ts vs ds p
  | [], vs, ds, p, _, _, h => by
    obtain ⟨rfl, rfl, rfl⟩ := trodAll_nil h
    exact rfl
  | t :: ts, vs, ds, p, hr, hlt, h => by
    obtain ⟨v, vs1, d, ds1, a, b, rfl, rfl, rfl, h1, h2⟩ := trodAll_cons h
    simp only [List.all_cons, Bool.and_eq_true, decide_eq_true_eq] at hr
    refine ⟨a, b, WideElems.Trod_stays hl hr.1.1 hr.1.2 h1 (fun x hx => hb.same (hlt x (by simp [hx])).1) (fun x hx => (hlt x (by simp [hx])).2), ?_, rfl⟩
    exact stays_all hl hb ts vs1 ds1 b hr.2 (fun x hx => hlt x (by simp [hx])) h2

theorem post_of_below {f : Func} {s : ChangeSpec} {apart fresh handsOn again : Bool} {W W' : World} {args : Array Value} {v : Value} {ds gs : List (DataW H)} {before pa pv : List MemPlace}
    (hW : DataW.Whole enc P f.params.toList s.vars apart W args.toList ds gs before)
    (hres : ∀ (b : Nat) (sp : Nat → Bool) (hd : Bool), DataW.TrodAll enc P W' b sp hd f.resultTypes.toList (v.resultList f.resultTypes.size) (s.fn H (ds ++ gs)).results [])
    (hargs : ∀ sp : Nat → Bool, (∀ p ∈ before, sp p.block = true) → DataW.TrodAll enc P W' 0 sp true f.params.toList args.toList (s.fn H (ds ++ gs)).args pa)
    (hvars : ∀ sp : Nat → Bool, (∀ p ∈ before, sp p.block = true) → DataW.TrodVars enc P W' sp s.vars (s.fn H (ds ++ gs)).vars pv)
    (hps : before = pa ++ pv) (hb : Below W.heap.size W W')
    (hok : ∀ (j : Nat) (t : TypeId) (r : Value), f.resultTypes[j]? = some t → (v.resultList f.resultTypes.size)[j]? = some r → Value.okWide P W' .any 0 t r) :
    s.post enc P f apart fresh handsOn again W args v W' := by
  have hlt : ∀ p ∈ before, p.block < W.heap.size := fun p hp => hW.lt p hp
  have hold : ∀ p ∈ before, (fun b => decide (b < W.heap.size)) p.block = true := fun p hp => by simpa using hlt p hp
  refine ⟨ds, gs, before, [], pa, pv, hW, hres _ _ _, hargs _ hold, hvars _ hold, World.keptBut_mono (fun p hp => ⟨hp, ?_⟩) (hb.frame (· ∈ before)), fun _ => ?_⟩
  · rw [hps, List.mem_append] at hp
    exact Or.inr hp
  · obtain ⟨_, _, _, _, _, hz, hn⟩ := hW
    refine ⟨hok, _, _, ([] ++ pa) ++ pv, ⟨[] ++ pa, pv, trodAll_append (hargs _ (fun _ _ => rfl)) (hres _ _ _), hvars _ (fun _ _ => rfl), rfl, ?_, ?_⟩, ?_⟩
    · intro b off hp
      have hin : MemPlace.cell b off ∈ before := by rw [hps]; simpa using hp
      rw [hb.frozen (hlt _ hin)]
      exact hz b off hin
    · intro ha
      have := hn ha
      rw [hps] at this
      simpa using this
    · intro p hp _
      rw [hps]
      simpa using hp

/-- THE ROW'S STEP: a law that answers true for every reading of its arguments. -/
theorem law_calls {f : FuncId} {fn : Func} {s : ChangeSpec} {apart fresh handsOn again : Bool} {tb : TypeId} {shs : List Sh} {args : Array Value} {ds gs : List (DataW H)} {before : List MemPlace} {base : Nat}
    (hvars : s.vars = []) (hl : laidOutB P = true) (hrt : fn.resultTypes = #[tb]) (htb : P.underlying tb = some .bool)
    (hr : fn.params.toList.all (fun t => P.readableRec t && decide (t < P.types.size)) = true) (hsh : fn.params.toList.map (shK P) = shs.map some)
    (hspec : ∀ l : List (DataW H), l.length = shs.length → s.fn H l = { results := [.lit (.bool true)], args := l })
    (hlaw : ∀ as : List Ar, as.map Ar.sh = shs → (∀ a ∈ as, a.ok) → PCall P f (as.map Ar.tv) (.v false [.bool true]))
    (hval : ∀ (j : Nat) (t : TypeId) (v : Value), fn.params[j]? = some t → args[j]? = some v → Value.okWide P W .any base t v)
    (hW : DataW.Whole enc P fn.params.toList s.vars apart W args.toList ds gs before) :
    Calls P f args W fun e W' => ∃ v, e = .returned v ∧ s.post enc P fn apart fresh handsOn again W args v W' := by
  have hW' := hW
  obtain ⟨p, q, hA, hV, rfl, hfz, hnd⟩ := hW
  rw [hvars] at hV
  obtain ⟨rfl, rfl⟩ := trodVars_none hV
  have hlt : ∀ x ∈ p ++ [], x.block < W.heap.size := fun x hx => hW'.lt x hx
  obtain ⟨as, e1, e2, e3, e4⟩ := open_ars (r := .any) (b0 := base) fn.params.toList args.toList ds p shs hsh (fun j t v ht hv => hval j t v (by simpa using ht) (by simpa using hv)) hA
  have hdl : ds.length = shs.length := by
    have : ∀ (ts : List TypeId) (vs : List Value) (ds : List (DataW H)) (p : List MemPlace), DataW.TrodAll enc P W 0 (fun _ => true) true ts vs ds p → ds.length = vs.length := by
      intro ts
      induction ts with
      | nil => intro vs ds p h; obtain ⟨rfl, rfl, rfl⟩ := trodAll_nil h; rfl
      | cons t ts ih =>
        intro vs ds p h
        obtain ⟨v, vs1, d, ds1, a, b, rfl, rfl, rfl, h1, h2⟩ := trodAll_cons h
        simp [ih _ _ _ h2]
    rw [this _ _ _ _ hA, e3, ← e1, List.length_map]
  have hfn := hspec (ds ++ []) (by simpa using hdl)
  have hcall := hlaw as e1 e2 W (fun b => b < W.heap.size) args.toList (by simpa using e3) (fun i a x ha hx => by
    simp only [List.getElem?_map, Option.map_eq_some_iff] at ha
    obtain ⟨a', ha', rfl⟩ := ha
    exact e4 i a' x ha' hx) (fun b hb => hb)
  refine hcall.mono ?_
  rintro e W' ⟨x, im', rfl, hb, _, _, hres⟩
  obtain ⟨a, ha, hx⟩ := hres
  simp at ha; subst ha
  simp only [CP] at hx; subst hx
  refine ⟨_, rfl, post_of_below (pa := p) (pv := []) hW' ?_ ?_ ?_ rfl hb (ok_one hrt rfl (okWide_bool_mk htb true))⟩
  · intro b sp hd
    rw [hfn, hrt]
    exact trodAll_mk1 (shut_bool htb true)
  · intro sp hsp
    rw [hfn]
    simp only [List.append_nil]
    exact stays_all hl hb _ _ _ _ hr (fun x hx => ⟨hlt x (by simp [hx]), hsp x (by simp [hx])⟩) hA
  · intro sp hsp
    rw [hfn, hvars]
    exact rfl
end
end Go.Am
