/- laid together -/
import Derived.Test.YtdllaekpkcanbaaGreatPrPf
import Derived.Test.YtdllaekpkcanbaaGreatPrRt
import Derived.Test.YtdllaekpkcanbaaGreatMx4
import Derived.Test.YtdllaekpkcanbaaGreatPrI3
set_option linter.unusedVariables false
set_option linter.unusedSimpArgs false
/- positions of a path: its length, the segment and the point at a position -/
set_option maxRecDepth 100000
namespace Go.Bm
open Classical

def midP (a : Pt) (g : Sgm) (d : Int) : Pt := ⟨a.x + near ((g.to.x - a.x) * d) g.len, a.y + near ((g.to.y - a.y) * d) g.len, a.z + near ((g.to.z - a.z) * d) g.len⟩
def atL : Pt → List Sgm → Int → Pt
  | a, [], _ => a
  | a, g :: l, s => if s < g.len then midP a g s else atL g.to l (s - g.len)
def atP (p : Pth) (s : Int) : Pt := atL p.start p.segs (max s 0)
def findL : List Sgm → Int → Nat × Int
  | [], s => (0, s)
  | [g], s => if s < g.len then (0, s) else (0, g.len)
  | g :: h :: l, s => if s < g.len then (0, s) else ((findL (h :: l) (s - g.len)).1 + 1, (findL (h :: l) (s - g.len)).2)
def vertL (a : Pt) (l : List Sgm) (i : Nat) : Pt := endOf a (l.take i)
def sg0 : Sgm := ⟨⟨0, 0, 0⟩, 0, 0, 0, 0⟩
def sgA (l : List Sgm) (i : Nat) : Sgm := l.getD i sg0
theorem sgA_get {l : List Sgm} {i : Nat} (h : i < l.length) : sgA l i = l[i] := by unfold sgA; simp [h]
theorem row_sgA {l : List Sgm} {i : Nat} (h : i < l.length) : nth [] (l.map sgmR) i = sgmR (sgA l i) := by rw [sgA_get h]; exact nth_map _ _ _ _ h
theorem sgA_mem {l : List Sgm} {i : Nat} (h : i < l.length) : sgA l i ∈ l := by rw [sgA_get h]; exact List.getElem_mem h
theorem vert_zero (a : Pt) (l : List Sgm) : vertL a l 0 = a := by unfold vertL; simp [endOf]
theorem vert_cons (a : Pt) (g : Sgm) (l : List Sgm) (i : Nat) : vertL a (g :: l) (i + 1) = vertL g.to l i := by unfold vertL; rw [List.take_succ_cons]; rfl
theorem sgA_cons (g : Sgm) (l : List Sgm) (i : Nat) : sgA (g :: l) (i + 1) = sgA l i := by unfold sgA; simp
theorem vert_succ : ∀ {l : List Sgm} {i : Nat} {a : Pt}, i < l.length → vertL a l (i + 1) = (sgA l i).to
  | g :: l, 0, a, _ => by rw [vert_cons, vert_zero]; rfl
  | g :: l, i + 1, a, h => by rw [vert_cons, sgA_cons]; exact vert_succ (by simpa using h)
theorem near_full {x n : Int} (hn : 0 < n) : near (x * n) n = x := near_mul hn
theorem mid_full {a : Pt} {g : Sgm} (h : 0 < g.len) : midP a g g.len = g.to := by
  unfold midP
  rw [near_full h, near_full h, near_full h]
  rw [pt_ext]
  exact ⟨by simp only; omega, by simp only; omega, by simp only; omega⟩
theorem mid_zero {a : Pt} {g : Sgm} (h : 0 < g.len) : midP a g 0 = a := by
  unfold midP
  have e : near 0 g.len = 0 := near_of h (by omega) (by omega)
  rw [Int.mul_zero, Int.mul_zero, Int.mul_zero, e]
  rw [pt_ext]
  exact ⟨by simp, by simp, by simp⟩
theorem atL_zero {a : Pt} {l : List Sgm} (h : ∀ g ∈ l, 1 ≤ g.len) : atL a l 0 = a := by
  cases l with
  | nil => rfl
  | cons g l =>
    have := h g (by simp)
    unfold atL
    rw [if_pos (by omega), mid_zero (by omega)]
theorem find_at : ∀ {l : List Sgm} {a : Pt} {s : Int}, l ≠ [] → (∀ g ∈ l, 1 ≤ g.len) → 0 ≤ s →
    (findL l s).1 < l.length ∧ 0 ≤ (findL l s).2 ∧ (findL l s).2 ≤ (sgA l (findL l s).1).len ∧ atL a l s = midP (vertL a l (findL l s).1) (sgA l (findL l s).1) (findL l s).2
  | [], _, _, h, _, _ => absurd rfl h
  | [g], a, s, _, hg, hs => by
    have h1 := hg g (by simp)
    unfold findL
    by_cases c : s < g.len
    · rw [if_pos c]
      refine ⟨by simp, hs, by show s ≤ g.len; omega, ?_⟩
      unfold atL
      rw [if_pos c, vert_zero]; rfl
    · rw [if_neg c]
      refine ⟨by simp, by simp only; omega, Int.le_refl _, ?_⟩
      unfold atL
      rw [if_neg c, vert_zero]
      show atL g.to [] _ = midP a g g.len
      rw [mid_full (by omega)]; rfl
  | g :: h :: l, a, s, _, hg, hs => by
    have h1 := hg g (by simp)
    unfold findL
    by_cases c : s < g.len
    · rw [if_pos c]
      refine ⟨by simp, hs, by show s ≤ g.len; omega, ?_⟩
      unfold atL
      rw [if_pos c, vert_zero]; rfl
    · rw [if_neg c]
      obtain ⟨k1, k2, k3, k4⟩ := find_at (l := h :: l) (a := g.to) (s := s - g.len) (by simp) (fun k hk => hg k (by simp at hk ⊢; exact .inr hk)) (by omega)
      refine ⟨by simp at k1 ⊢; omega, k2, ?_, ?_⟩
      · simp only [sgA_cons]; exact k3
      · rw [show atL a (g :: h :: l) s = atL g.to (h :: l) (s - g.len) from by rw [atL, if_neg c]]
        simp only [vert_cons, sgA_cons]
        exact k4
theorem near_step {D L d : Int} (hL : 0 < L) (h1 : -L ≤ D ∧ D ≤ L) : -1 ≤ near (D * (d + 1)) L - near (D * d) L ∧ near (D * (d + 1)) L - near (D * d) L ≤ 1 := by
  have e : D * (d + 1) = D * d + D := by rw [Int.mul_add, Int.mul_one]
  have up : near (D * d + L) L = near (D * d) L + 1 := by
    obtain ⟨a, b⟩ := near_spec (a := D * d) hL
    refine near_of hL ?_ ?_
    · rw [Int.add_mul]; omega
    · rw [Int.add_mul, Int.add_mul] at *; omega
  have dn : near (D * d - L) L = near (D * d) L - 1 := by
    obtain ⟨a, b⟩ := near_spec (a := D * d) hL
    refine near_of hL ?_ ?_
    · rw [Int.sub_mul]; omega
    · rw [Int.add_mul] at b; rw [Int.add_mul, Int.sub_mul]; omega
  have m1 := near_mono hL (show D * (d + 1) ≤ D * d + L by omega)
  have m2 := near_mono hL (show D * d - L ≤ D * (d + 1) by omega)
  omega
def close1 (a b : Pt) : Prop := (-1 ≤ b.x - a.x ∧ b.x - a.x ≤ 1) ∧ (-1 ≤ b.y - a.y ∧ b.y - a.y ≤ 1) ∧ (-1 ≤ b.z - a.z ∧ b.z - a.z ≤ 1)
theorem seg_comp {a : Pt} {g : Sgm} (ha : bd B26 a) (hg : bd B26 g.to) (hl : g.len = lenP a g.to) : (-g.len ≤ g.to.x - a.x ∧ g.to.x - a.x ≤ g.len) ∧ (-g.len ≤ g.to.y - a.y ∧ g.to.y - a.y ≤ g.len) ∧ (-g.len ≤ g.to.z - a.z ∧ g.to.z - a.z ≤ g.len) := by
  obtain ⟨h1, h2, h3⟩ := len_comp ha hg
  have := len_bd ha hg
  rw [← hl] at *
  omega
theorem mid_step {a : Pt} {g : Sgm} {d : Int} (ha : bd B26 a) (hg : bd B26 g.to) (hl : g.len = lenP a g.to) (h0 : 0 < g.len) : close1 (midP a g d) (midP a g (d + 1)) := by
  obtain ⟨h1, h2, h3⟩ := seg_comp ha hg hl
  have s1 := near_step (d := d) h0 h1
  have s2 := near_step (d := d) h0 h2
  have s3 := near_step (d := d) h0 h3
  unfold close1 midP
  simp only
  omega
theorem at_step : ∀ {l : List Sgm} {a : Pt} {s : Int}, bd B26 a → goodSegs a l → 0 ≤ s → close1 (atL a l s) (atL a l (s + 1))
  | [], a, s, _, _, _ => by unfold close1 atL; simp
  | g :: l, a, s, ha, hg, hs => by
    obtain ⟨h1, h2, h3, h4⟩ := hg
    have hp := (len_pos ha h3 h2).1
    rw [← h1] at hp
    unfold atL
    by_cases c : s < g.len
    · rw [if_pos c]
      by_cases c2 : s + 1 < g.len
      · rw [if_pos c2]; exact mid_step ha h3 h1 (by omega)
      · rw [if_neg c2]
        have e : s + 1 = g.len := by omega
        have e2 : s + 1 - g.len = 0 := by omega
        rw [e2, atL_zero fun k hk => (good_len h3 h4 k hk).1, ← mid_full (a := a) (g := g) (by omega), ← e]
        exact mid_step ha h3 h1 (by omega)
    · rw [if_neg c, if_neg (by omega), show s + 1 - g.len = (s - g.len) + 1 by omega]
      exact at_step h3 h4 (by omega)
theorem atP_step {p : Pth} (h : GoodPath p) (s : Int) : close1 (atP p s) (atP p (s + 1)) := by
  unfold atP
  by_cases c : 0 ≤ s
  · rw [Int.max_eq_left c, Int.max_eq_left (by omega)]
    exact at_step h.start h.segs c
  · rw [Int.max_eq_right (by omega), Int.max_eq_right (by omega)]
    unfold close1; simp
theorem near_bd {x n : Int} {A : Nat} (hn : 0 < n) (h : -(A * n) ≤ x ∧ x ≤ A * n) : (near x n).natAbs ≤ A := by
  have m1 := near_mono hn h.2
  have m2 := near_mono hn h.1
  rw [show -((A : Int) * n) = -(A : Int) * n by rw [Int.neg_mul]] at m2
  rw [near_mul hn] at m1 m2
  omega
theorem mid_bd2 {D L d : Int} (hL : 0 < L) (hD : D.natAbs ≤ 134217728) (hd : 0 ≤ d ∧ d ≤ L) : (near (D * d) L).natAbs ≤ 134217728 := by
  refine near_bd hL ?_
  have h1 : D * d ≤ 134217728 * d := Int.mul_le_mul_of_nonneg_right (by omega) hd.1
  have h2 : -134217728 * d ≤ D * d := Int.mul_le_mul_of_nonneg_right (by omega) hd.1
  have e : ((134217728 : Nat) : Int) = 134217728 := rfl
  rw [e]
  omega
structure SegOK (l : List Sgm) : Prop where
  seg : ∀ g ∈ l, 1 ≤ g.len ∧ g.len ≤ 268435456 ∧ bd B26 g.to
  count : l.length ≤ 983055
theorem GoodPath.ok {p : Pth} (h : GoodPath p) : SegOK p.segs := ⟨good_len h.start h.segs, h.count⟩
theorem vert_bd {a : Pt} {l : List Sgm} (ha : bd B26 a) (h : SegOK l) {i : Nat} (hi : i < l.length) : bd B26 (vertL a l i) := by
  cases i with
  | zero => rw [vert_zero]; exact ha
  | succ i => rw [vert_succ (by omega)]; exact (h.seg _ (sgA_mem (by omega))).2.2

theorem l_path_Length {l : List Sgm} (h : SegOK l) : ∀ (k i : Nat) (v : Int), i + k = l.length → 0 ≤ v → v + k * 268435456 ≤ 4000000000000000000 →
    loopC st_path_Length_3 [I v, .view kSgm (l.map sgmR), I l.length, I i] = some (1, [I (v + sumLen (l.drop i))])
  | 0, i, v, hi, _, _ => by
    refine loop_end ?_ (by simp)
    rw [st_path_Length_3_eq, bif_neg (by omega), List.drop_of_length_le (by omega)]
    simp [sumLen]
  | k + 1, i, v, hi, h0, h1 => by
    have hlt : i < l.length := by omega
    have hcn := h.count
    have hg := h.seg _ (sgA_mem hlt)
    have hst : st_path_Length_3 [I v, .view kSgm (l.map sgmR), I l.length, I i] = some (0, [I (v + (sgA l i).len), .view kSgm (l.map sgmR), I l.length, I (i + 1 : Nat)]) := by
      rw [st_path_Length_3_eq]
      simp only [go_sem, List.length_map, Int.toNat_natCast, row_sgA hlt]
      rw [if_pos (by omega), if_pos (by omega), wrap_id (x := v + _) (by omega), wrap_id (by omega)]
      rfl
    rw [loop_more hst, l_path_Length h k (i + 1) _ (by omega) (by omega) (by omega)]
    have e : l.drop i = sgA l i :: l.drop (i + 1) := by rw [sgA_get hlt]; exact getElem_take_drop _ _ hlt
    rw [e]
    simp only [sumLen, Int.add_assoc]
theorem s_path_Length {p : Pth} (h : SegOK p.segs) : m_path_Length (pthR p) = some [I (sumLen p.segs)] := by
  have hl := l_path_Length h p.segs.length 0 0 (by omega) (by omega) (by have := h.count; omega)
  have hl' : l_path_Length_3 [I 0, .view kSgm (p.segs.map sgmR), I p.segs.length, I 0] = some (1, [I (0 + sumLen (p.segs.drop 0))]) := hl
  rw [List.drop_zero, Int.zero_add] at hl'
  unfold m_path_Length
  generalize l_path_Length_3 = N at *
  rw [mf_path_Length_eq]
  simp only [go_sem, List.length_map, hl']
theorem findL_step {g h : Sgm} {l : List Sgm} {s : Int} (c : ¬ s < g.len) : findL (g :: h :: l) s = ((findL (h :: l) (s - g.len)).1 + 1, (findL (h :: l) (s - g.len)).2) := by rw [findL, if_neg c]
theorem l_path_Find {p : Pth} (h : SegOK p.segs) : ∀ (k i : Nat) (s : Int), i + k = p.segs.length → 1 ≤ k → 0 ≤ s ∧ s ≤ 9223372036854775807 →
    loopC st_path_Find_3 (I s :: .view kSgm (p.segs.map sgmR) :: I p.segs.length :: I i :: pthR p) = some (1, [I (i + (findL (p.segs.drop i) s).1 : Nat), I (findL (p.segs.drop i) s).2])
  | k + 1, i, s, hi, _, hs => by
    have hlt : i < p.segs.length := by omega
    have hcnt := h.count
    have hg := h.seg _ (sgA_mem hlt)
    have e : p.segs.drop i = sgA p.segs i :: p.segs.drop (i + 1) := by rw [sgA_get hlt]; exact getElem_take_drop _ _ hlt
    have hst : st_path_Find_3 (I s :: .view kSgm (p.segs.map sgmR) :: I p.segs.length :: I i :: pthR p) = if s < (sgA p.segs i).len then some (1, [I i, I s]) else if k = 0 then some (1, [I i, I (sgA p.segs i).len]) else some (0, I (s - (sgA p.segs i).len) :: .view kSgm (p.segs.map sgmR) :: I p.segs.length :: I (i + 1 : Nat) :: pthR p) := by
      rw [st_path_Find_3_eq]
      simp only [go_sem, List.length_map, Int.toNat_natCast, row_sgA hlt]
      rw [if_pos (by omega), if_pos (by omega), wrap_id (x := (p.segs.length : Int) - 1) (by omega), wrap_id (x := (i : Int) + 1) (by omega)]
      by_cases c : s < (sgA p.segs i).len
      · rw [if_pos c, if_pos c]
      · rw [if_neg c, if_neg c]
        by_cases c2 : k = 0
        · rw [if_pos (by omega), if_pos c2]
        · rw [if_neg (by omega), if_neg c2, wrap_id (by omega)]; rfl
    by_cases c : s < (sgA p.segs i).len
    · rw [if_pos c] at hst
      rw [loop_end hst (by simp), e]
      cases p.segs.drop (i + 1) with
      | nil => rw [findL, if_pos c]; rfl
      | cons b l => rw [findL, if_pos c]; rfl
    · rw [if_neg c] at hst
      by_cases c2 : k = 0
      · rw [if_pos c2] at hst
        rw [loop_end hst (by simp), e, List.drop_of_length_le (by omega), findL, if_neg c]; rfl
      · rw [if_neg c2] at hst
        rw [loop_more hst, l_path_Find h k (i + 1) _ (by omega) (by omega) (by omega), e]
        have e2 : p.segs.drop (i + 1) = sgA p.segs (i + 1) :: p.segs.drop (i + 1 + 1) := by rw [sgA_get (show i + 1 < p.segs.length by omega)]; exact getElem_take_drop _ _ (by omega)
        rw [e2, findL_step c, ← e2]
        simp only
        rw [show i + 1 + (findL (p.segs.drop (i + 1)) (s - (sgA p.segs i).len)).1 = i + ((findL (p.segs.drop (i + 1)) (s - (sgA p.segs i).len)).1 + 1) by omega]
theorem s_path_Find {p : Pth} (h : SegOK p.segs) {s : Int} (hs : i64 s) : m_path_Find (pthR p ++ [I s]) = if p.segs = [] then some [I (-1), I 0] else some [I (findL p.segs (max s 0)).1, I (findL p.segs (max s 0)).2] := by
  unfold i64 at hs
  have hmx : mx s 0 = max s 0 := mx_max' s 0
  by_cases c : p.segs = []
  · rw [if_pos c]
    have hend : l_path_Find_3 (I (max s 0) :: .view kSgm [] :: I 0 :: I 0 :: pthR p) = some (2, []) := by
      refine loop_end ?_ (by simp)
      rw [st_path_Find_3_eq, bif_neg (by omega)]
    unfold m_path_Find
    generalize l_path_Find_3 = N at *
    have he := mf_path_Find_eq N p.start.x p.start.y p.start.z (p.segs.map sgmR) (p.marks.map mrkR) s
    refine Eq.trans he ?_
    rw [hmx, c]
    have hend' : N [I (max s 0), .view kSgm [], I 0, I 0, I p.start.x, I p.start.y, I p.start.z, .view kSgm [], .view kMrk (p.marks.map mrkR)] = some (2, []) := by
      have := hend
      unfold pthR at this
      rw [c] at this
      exact this
    simp only [go_sem, List.map_nil, List.length_nil]
    simp only [Int.natCast_zero]
    rw [hend']
    simp
  · rw [if_neg c]
    have hpos : 0 < p.segs.length := by
      cases hh : p.segs with
      | nil => exact absurd hh c
      | cons _ _ => simp
    have hL := l_path_Find h p.segs.length 0 (max s 0) (by omega) (by omega) (by omega)
    have hL' : l_path_Find_3 [I (max s 0), .view kSgm (p.segs.map sgmR), I p.segs.length, I 0, I p.start.x, I p.start.y, I p.start.z, .view kSgm (p.segs.map sgmR), .view kMrk (p.marks.map mrkR)] = some (1, [I (0 + (findL (p.segs.drop 0) (max s 0)).1 : Nat), I (findL (p.segs.drop 0) (max s 0)).2]) := hL
    rw [List.drop_zero, Nat.zero_add] at hL'
    unfold m_path_Find
    generalize l_path_Find_3 = N at *
    have he := mf_path_Find_eq N p.start.x p.start.y p.start.z (p.segs.map sgmR) (p.marks.map mrkR) s
    refine Eq.trans he ?_
    rw [hmx]
    simp only [go_sem, List.length_map, hL']
where mx_max' (a b : Int) : mx a b = max a b := by unfold mx; rw [Int.max_def]; split <;> split <;> omega
theorem a_path_At {MM MF : List AC → Option (List AC)} {p : Pth} (h : GoodPath p) {s : Int} (hF : MF (pthR p ++ [I s]) = if p.segs = [] then some [I (-1), I 0] else some [I (findL p.segs (max s 0)).1, I (findL p.segs (max s 0)).2])
    (hM : ∀ {a b c : Int}, a.natAbs ≤ 134217728 → b.natAbs ≤ 268435456 → (0 < c ∧ c ≤ 268435456) → MM [I a, I b, I c, I 2] = some [I (near (a * b) c), B true]) :
    mf_path_At MM MF (pthR p ++ [I s]) = some (ptR (atP p s)) := by
  have he := mf_path_At_eq (M_wide_MulDiv := MM) (M_path_Find := MF) p.start.x p.start.y p.start.z (p.segs.map sgmR) (p.marks.map mrkR) s
  refine Eq.trans he ?_
  simp only [List.cons_append, List.nil_append, pthR] at hF
  unfold atP
  by_cases c : p.segs = []
  · rw [if_pos c] at hF
    simp only [hF, go_sem]
    rw [if_pos (by omega), c]; rfl
  · rw [if_neg c] at hF
    have hok := h.ok
    obtain ⟨f1, f2, f3, f4⟩ := find_at (l := p.segs) (a := p.start) (s := max s 0) c (fun g hg => (hok.seg g hg).1) (by omega)
    rw [f4]
    have hg := hok.seg _ (sgA_mem f1)
    have hv := vert_bd h.start hok f1
    have hr := row_sgA f1
    have hcnt := hok.count
    generalize (findL p.segs (max s 0)).1 = i at *
    generalize (findL p.segs (max s 0)).2 = d at *
    have hdn : d.natAbs ≤ 268435456 := by omega
    have fin : ∀ {a : Pt}, bd B26 a → (MM [I (IntKind.i64.wrap ((sgA p.segs i).to.x - a.x)), I d, I (sgA p.segs i).len, I 2] = some [I (near (((sgA p.segs i).to.x - a.x) * d) (sgA p.segs i).len), B true] ∧ IntKind.i64.wrap (a.x + near (((sgA p.segs i).to.x - a.x) * d) (sgA p.segs i).len) = a.x + near (((sgA p.segs i).to.x - a.x) * d) (sgA p.segs i).len) ∧
        (MM [I (IntKind.i64.wrap ((sgA p.segs i).to.y - a.y)), I d, I (sgA p.segs i).len, I 2] = some [I (near (((sgA p.segs i).to.y - a.y) * d) (sgA p.segs i).len), B true] ∧ IntKind.i64.wrap (a.y + near (((sgA p.segs i).to.y - a.y) * d) (sgA p.segs i).len) = a.y + near (((sgA p.segs i).to.y - a.y) * d) (sgA p.segs i).len) ∧
        (MM [I (IntKind.i64.wrap ((sgA p.segs i).to.z - a.z)), I d, I (sgA p.segs i).len, I 2] = some [I (near (((sgA p.segs i).to.z - a.z) * d) (sgA p.segs i).len), B true] ∧ IntKind.i64.wrap (a.z + near (((sgA p.segs i).to.z - a.z) * d) (sgA p.segs i).len) = a.z + near (((sgA p.segs i).to.z - a.z) * d) (sgA p.segs i).len) := by
      intro a ha
      have key : ∀ u v : Int, u.natAbs ≤ B26 → v.natAbs ≤ B26 → MM [I (IntKind.i64.wrap (u - v)), I d, I (sgA p.segs i).len, I 2] = some [I (near ((u - v) * d) (sgA p.segs i).len), B true] ∧ IntKind.i64.wrap (v + near ((u - v) * d) (sgA p.segs i).len) = v + near ((u - v) * d) (sgA p.segs i).len := by
        intro u v hu hv
        have h1 := sub_nat hu hv
        rw [wrap_nat h1 (by decide)]
        refine ⟨hM (Nat.le_trans h1 (by decide)) hdn (by omega), ?_⟩
        exact wrap_nat (add_nat hv (mid_bd2 (by omega) (Nat.le_trans h1 (by decide)) ⟨f2, f3⟩)) (by decide)
      exact ⟨key _ _ hg.2.2.1 ha.1, key _ _ hg.2.2.2.1 ha.2.1, key _ _ hg.2.2.2.2 ha.2.2⟩
    have hin : (0 : Int) ≤ (i : Int) ∧ (i : Int) < (p.segs.length : Int) := by omega
    simp only [hF, go_sem, List.length_map, Int.toNat_natCast, hr, if_pos hin]
    rw [if_neg (by omega)]
    by_cases c0 : i = 0
    · subst c0
      obtain ⟨⟨m1, w1⟩, ⟨m2, w2⟩, m3, w3⟩ := fin h.start
      rw [if_neg (by omega), vert_zero]
      simp only [m1, m2, m3, go_sem, w1, w2, w3]
      rfl
    · obtain ⟨j, rfl⟩ : ∃ j, i = j + 1 := ⟨i - 1, by omega⟩
      have hj := row_sgA (l := p.segs) (i := j) (by omega)
      have hgj := hok.seg _ (sgA_mem (l := p.segs) (i := j) (by omega))
      obtain ⟨⟨m1, w1⟩, ⟨m2, w2⟩, m3, w3⟩ := fin hgj.2.2
      rw [if_pos (by omega), vert_succ (by omega)]
      have e1 : IntKind.i64.wrap (((j + 1 : Nat) : Int) - 1) = (j : Int) := by rw [wrap_id (by omega)]; omega
      rw [e1]
      simp only [Int.toNat_natCast, hj, go_sem]
      rw [if_pos (by omega)]
      simp only [m1, m2, m3, go_sem, w1, w2, w3]
      rfl
theorem s_MulDivA {a b c : Int} (ha : a.natAbs ≤ 134217728) (hb : b.natAbs ≤ 268435456) (hc : 0 < c ∧ c ≤ 268435456) : m_wide_MulDiv [I a, I b, I c, I 2] = some [I (near (a * b) c), B true] := by
  have := Nat.mul_le_mul ha hb
  exact s_wide_MulDiv (by unfold i64; omega) (by unfold i64; omega) (by omega) (by omega)
theorem s_path_At {p : Pth} (h : GoodPath p) {s : Int} (hs : i64 s) : m_path_At (pthR p ++ [I s]) = some (ptR (atP p s)) :=
  a_path_At h (s_path_Find h.ok hs) s_MulDivA
end Go.Bm
/- positions of a path in the reference; the path of the law's maker -/
set_option maxRecDepth 100000
namespace Go.Bm
open Classical

theorem s_MillPath {l : List (List AC)} (hl : Src l) {most : Int} (hm : most ≤ 15) : ∃ p : Pth, m_cncmill_Path [.view kInts l, I most] = some (pthR p) ∧ GoodPath p := by
  obtain ⟨q, items, h1, h2, h3⟩ := s_Motions hl (most := most) (by omega)
  have hlen : items.length ≤ 15 := by
    rcases h3 with h | h
    · rw [h]; simp
    · omega
  have h4 := s_Build hlen
  unfold m_cncmill_Path
  generalize m_cncref25_Build = MB at *
  generalize m_cncmill_Motions = MM at *
  rw [mf_cncmill_Path_eq]
  by_cases hc : checkP items = 0
  · rw [if_pos hc] at h4
    refine ⟨pathP items, ?_, goodP_of hlen hc⟩
    simp only [List.cons_append, List.nil_append, pthR] at h4
    simp only [go_sem, h1, h4]
  · rw [if_neg hc] at h4
    refine ⟨⟨⟨0, 0, 0⟩, [], []⟩, ?_, empty_good⟩
    simp only [go_sem, h1, h4]
    rfl
theorem sum_path {p : Pth} (h : GoodPath p) : 0 ≤ sumLen p.segs ∧ sumLen p.segs ≤ 263886834032640 := by
  have h1 := sum_bd h.ok.seg
  have h2 := h.count
  omega
end Go.Bm
/- the segment and the point at a position, by the reference -/
set_option maxRecDepth 100000
namespace Go.Bm
open Classical

end Go.Bm
