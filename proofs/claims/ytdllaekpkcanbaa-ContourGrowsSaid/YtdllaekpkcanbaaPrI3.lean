/- the maker's list of motions -/
import Derived.Test.YtdllaekpkcanbaaPrI2
set_option linter.unusedVariables false
set_option linter.unusedSimpArgs false
set_option maxRecDepth 100000
namespace Go.Bm

/-- each item begins where the one before it ends -/
def Chained : Pt → List Itm → Prop
  | _, [] => True
  | p, it :: l => it.fr = p ∧ Chained it.to l
def lastTo : Pt → List Itm → Pt
  | p, [] => p
  | _, it :: l => lastTo it.to l
theorem chained_snoc {p : Pt} {it : Itm} : ∀ {l : List Itm} {p : Pt}, Chained p l → it.fr = lastTo p l → Chained p (l ++ [it])
  | [], _, _, h => ⟨h, trivial⟩
  | _ :: _, _, ⟨h1, h2⟩, h => ⟨h1, chained_snoc (p := p) h2 h⟩
theorem lastTo_snoc {it : Itm} : ∀ {l : List Itm} {p : Pt}, lastTo p (l ++ [it]) = it.to
  | [], _ => rfl
  | _ :: l, _ => lastTo_snoc (l := l)
/-- motions that the maker makes -/
structure Motions (B : Nat) (p : Pt) (l : List Itm) : Prop where
  chain : Chained p l
  made : ∀ it ∈ l, Made it ∧ blank it ∧ it.kind ≤ 3 ∧ bd B it.fr ∧ bd B it.to
theorem arc_bd {size : Int} {b : Nat} {it : Itm} (h : ArcMade size it) (hs : size ≤ 1000) (hf : bd b it.fr) : bd (b + 2 * (12 + size.toNat)) it.to ∧ bd (b + 8 + size.toNat) it.ce := by
  obtain ⟨r, k, t, g, x, h1, h2, h3, h4, h5, h6, h7, h8, h9, h10, h11, h12, h13⟩ := h.ends
  obtain ⟨q1, q2, q3⟩ := pl_bd (pl := it.plane) hf
  obtain ⟨⟨r1, r2⟩, r3, r4⟩ := rot_bd (r := r) (k := k) (by omega)
  obtain ⟨⟨r5, r6⟩, r7, r8⟩ := rot_bd (r := r + g) (k := k + t) (by omega)
  rw [h12, h13]
  unfold bd spP
  constructor <;> split <;> (try split) <;> refine ⟨?_, ?_, ?_⟩ <;> simp only <;> omega
theorem made_bd {b : Nat} {it : Itm} (h : Made it) (hf : bd b it.fr) : bd (b + 40) it.to := by
  by_cases h3 : it.kind = 3
  · exact bd_mono (arc_bd (h.arc h3) (by omega) hf).1 (by omega)
  · obtain ⟨h1, h2, h4⟩ := h.line h3
    obtain ⟨g1, g2, g3⟩ := hf
    exact ⟨by omega, by omega, by omega⟩
theorem kind_at {v : Int} (h : 0 ≤ v ∧ v < 5) : ∃ x, intOf (nth .dead (nth [] [[I 2], [I 2], [I 2], [I 3], [I 1]] v.toNat) 0) = x ∧ 1 ≤ x ∧ x ≤ 3 := by
  have hc : v = 0 ∨ v = 1 ∨ v = 2 ∨ v = 3 ∨ v = 4 := by omega
  rcases hc with rfl | rfl | rfl | rfl | rfl <;> exact ⟨_, rfl, by decide⟩

theorem a_MotionsL {MM ML MN MF : List AC → Option (List AC)} {l : List (List AC)} (hN : NextOK l MN)
    (hM : ∀ {p : Pt}, bd 100000000 p → ∀ {kind : Int}, (1 ≤ kind ∧ kind ≤ 6) → ∀ k : Nat,
      ∃ (it : Itm) (k' : Nat), MM [I p.x, I p.y, I p.z, I kind, .view kInts l, I k] = some (itmR it ++ [.view kInts l, I k']) ∧ k ≤ k' ∧ it.fr = p ∧ it.kind = kind ∧ Made it ∧ blank it)
    (hL : ∀ k : Nat, ML [.view kInts l, I k] = some [B (decide (k < l.length)), .view kInts l, I k]) {most : Int} (hm : most ≤ 1000) {p : Pt} :
    ∀ s : List Itm × Nat, (Motions (4 + 40 * 1000) p s.1 ∧ bd (4 + 40 * s.1.length) (lastTo p s.1) ∧ (s.1 = [] ∨ s.1.length ≤ most)) →
      ∃ o, loopC (st_cncmill_Motions_4 MM ML MN MF) [.view kItm (s.1.map itmR), I most, I (lastTo p s.1).x, I (lastTo p s.1).y, I (lastTo p s.1).z, .view kInts l, I s.2] = some o ∧ o.1 ≠ 0 ∧
        ∃ items, o = (1, [.view kItm (items.map itmR)]) ∧ Motions (4 + 40 * 1000) p items ∧ (items = [] ∨ items.length ≤ most) := by
  refine loop_nat (S := List Itm × Nat) (fun s => [.view kItm (s.1.map itmR), I most, I (lastTo p s.1).x, I (lastTo p s.1).y, I (lastTo p s.1).z, .view kInts l, I s.2]) _ (fun s => l.length - s.2) _ ?_
  rintro ⟨items, k⟩ ⟨h1, h2, h3⟩
  simp only at h1 h2 h3
  simp only
  rw [st_cncmill_Motions_4_eq]
  simp only [go_sem, hL, List.length_map]
  by_cases c1 : (items.length : Int) < most
  case neg =>
    rw [if_neg c1]
    exact .inr ⟨_, rfl, by simp, items, rfl, h1, h3⟩
  rw [if_pos c1]
  by_cases c2 : k < l.length
  case neg =>
    rw [if_neg (by simpa using c2)]
    exact .inr ⟨_, rfl, by simp, items, rfl, h1, h3⟩
  rw [if_pos (by simpa using c2)]
  obtain ⟨v, k1, e1, a1, b1, d1, d2, -⟩ := hN k (n := 5) (by omega)
  have d3 := d2 c2
  subst d3
  obtain ⟨x, hx, hx1, hx2⟩ := kind_at ⟨a1, b1⟩
  have hpb : bd 100000000 (lastTo p items) := bd_mono h2 (by omega)
  obtain ⟨it, k2, e2, g1, g2, g3, g4, g5⟩ := hM hpb (kind := x) (by omega) (k + 1)
  simp only [go_sem, e1, hx, e2, itmR, List.cons_append, List.nil_append]
  rw [if_pos (by simp; omega), if_pos (by simp; omega)]
  left
  have hb2 := made_bd g4 (by rw [g2]; exact h2)
  have hmost : items.length < 1000 := by omega
  refine ⟨(items ++ [it], k2), ?_, ⟨⟨chained_snoc (p := p) h1.chain g2, ?_⟩, ?_, .inr ?_⟩, ?_⟩
  · simp only [lastTo_snoc, List.map_append, List.map_cons, List.map_nil, itmR]
  · intro i hi
    simp only [List.mem_append, List.mem_singleton] at hi
    rcases hi with hi | rfl
    · exact h1.made i hi
    · exact ⟨g4, g5, by omega, by rw [g2]; exact bd_mono h2 (by omega), bd_mono hb2 (by omega)⟩
  · simp only [lastTo_snoc, List.length_append, List.length_singleton]
    exact bd_mono hb2 (by omega)
  · simp only [List.length_append, List.length_singleton]; omega
  · simp only; omega
theorem a_Motions {MM ML MN MF : List AC → Option (List AC)} {N : List AC → Option (Nat × List AC)} {l : List (List AC)} (hN : NextOK l MN) (hF : MF [.view kInts l] = some [.view kInts l, I 0]) {most : Int}
    (hL : ∀ (p : Pt) (k : Nat), bd 4 p → ∃ items, N [.view kItm [], I most, I p.x, I p.y, I p.z, .view kInts l, I k] = some (1, [.view kItm (items.map itmR)]) ∧ Motions 40004 p items ∧ (items = [] ∨ items.length ≤ most)) :
    ∃ (p : Pt) (items : List Itm), mf_cncmill_Motions MM ML MN MF N [.view kInts l, I most] = some [.view kItm (items.map itmR)] ∧ Motions 40004 p items ∧ (items = [] ∨ items.length ≤ most) := by
  obtain ⟨v1, k1, e1, a1, b1, c1, -, -⟩ := hN 0 (n := 9) (by omega)
  obtain ⟨v2, k2, e2, a2, b2, c2, -, -⟩ := hN k1 (n := 9) (by omega)
  obtain ⟨v3, k3, e3, a3, b3, c3, -, -⟩ := hN k2 (n := 9) (by omega)
  obtain ⟨items, h1, h2, h3⟩ := hL ⟨v1 - 4, v2 - 4, v3 - 4⟩ k3 ⟨by simp only; omega, by simp only; omega, by simp only; omega⟩
  rw [mf_cncmill_Motions_eq]
  have e1' : MN [I 9, .view kInts l, I 0] = some [I v1, .view kInts l, I k1] := e1
  simp only [go_sem, hF, e1', e2, e3]
  rw [wrap_id (x := v1 - 4) (by omega), wrap_id (x := v2 - 4) (by omega), wrap_id (x := v3 - 4) (by omega)]
  simp only [h1, go_sem]
  exact ⟨_, items, rfl, h2, h3⟩
theorem s_Motions {l : List (List AC)} (hl : Src l) {most : Int} (hm : most ≤ 1000) :
    ∃ (p : Pt) (items : List Itm), m_cncmill_Motions [.view kInts l, I most] = some [.view kItm (items.map itmR)] ∧ Motions 40004 p items ∧ (items = [] ∨ items.length ≤ most) := by
  refine a_Motions (nextOK hl) (s_From l) fun p k hp => ?_
  obtain ⟨o, h1, -, items, rfl, h3, h4⟩ := a_MotionsL (MF := m_cncmill_From) (nextOK hl) (fun hp _ hk k => s_motion hl hp hk k) (s_Left l) hm (p := p) ([], k) ⟨⟨trivial, by simp⟩, hp, .inl rfl⟩
  exact ⟨items, h1, h3, h4⟩
end Go.Bm
