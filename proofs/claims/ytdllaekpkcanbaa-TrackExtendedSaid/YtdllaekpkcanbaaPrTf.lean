/- laid together -/
import Derived.Test.YtdllaekpkcanbaaPrBd3
import Derived.Test.YtdllaekpkcanbaaPrH
import Derived.Test.YtdllaekpkcanbaaMx5
set_option linter.unusedVariables false
set_option linter.unusedSimpArgs false
/- what is known of every path that the reference builds -/
set_option maxRecDepth 100000
namespace Go.Bm
open Classical

def endOf : Pt -> List Sgm -> Pt
 | a, [] => a
 | _, g :: l => endOf g.to l
abbrev B26 : Nat := 67108864
def goodSegs : Pt -> List Sgm -> Prop
 | _, [] => True
 | a, g :: l => g.len = lenP a g.to /\ g.to ≠ a /\ bd B26 g.to /\ goodSegs g.to l
def Qay : List Sgm -> Int
 | [] => 0
 | g :: l => g.len + Qay l
theorem endOf_snoc (g : Sgm) : ∀ (a : Pt) (l : List Sgm), endOf a (l ++ [g]) = g.to
 | _, [] => rfl
 | _, h :: l => by simp only [List.cons_append, endOf]; exact endOf_snoc g h.to l
theorem goodSegs_snoc {g : Sgm} : ∀ {a : Pt} {l : List Sgm}, goodSegs a l -> g.len = lenP (endOf a l) g.to -> g.to ≠ endOf a l -> bd B26 g.to -> goodSegs a (l ++ [g])
 | a, [], _, h1, h2, h3 => ⟨h1, h2, h3, trivial⟩
 | a, k :: l, h, h1, h2, h3 => ⟨h.1, h.2.1, h.2.2.1, goodSegs_snoc h.2.2.2 h1 h2 h3⟩
theorem sumLen_snoc (g : Sgm) : ∀ (l : List Sgm), Qay (l ++ [g]) = Qay l + g.len
 | [] => by simp [Qay]
 | k :: l => by simp only [List.cons_append, Qay]; rw [sumLen_snoc g l]; omega
def segInv (start : Pt) (s : List Sgm × Int × Pt) : Prop := goodSegs start s.1 /\ endOf start s.1 = s.2.2 /\ Qay s.1 = s.2.1
theorem fold_inv {start : Pt} {item feed lead : Int} : ∀ (pts : List Pt) (s : List Sgm × Int × Pt), (∀ p ∈ pts, bd B26 p) -> segInv start s -> segInv start (pts.foldl (Qeu item feed lead) s)
 | [], s, _, h => h
 | q :: pts, s, hp, h => by
  rw [List.foldl_cons]
  refine fold_inv pts _ (fun p hp' => hp p (by simp [hp'])) ?_
  unfold Qeu
  by_cases c : q = s.2.2
  ·rw [if_pos c]; exact h
  ·rw [if_neg c]
   obtain ⟨h1, h2, h3⟩ := h
   refine ⟨goodSegs_snoc h1 (by rw [h2]) (by rw [h2]; exact c) (hp q (by simp)), endOf_snoc _ _ _, ?_⟩
   simp only [sumLen_snoc, h3]
structure BInv (s : BSt) : Prop where
 begun : s.begun = true -> bd B26 s.start /\ segInv s.start (s.segs, s.len, s.at_)
 empty : s.begun = false -> s.segs = [] /\ s.len = 0 /\ s.start = ⟨0, 0, 0⟩
theorem bStep_inv {items : List Itm} {i : Nat} {s : BSt} (hi : i < items.length) (hright : ∀ j < items.length, ¬ Qel (itA items j)) (hok : BOK items i s) (h : BInv s) : BInv (bStep items i s) := by
 have hall : ∀ k < items.length, motI (itA items k) -> drawn (itA items k) := fun k hk hm => (right_mot (hright k hk) hm).1
 unfold bStep
 by_cases hm : motI (itA items i)
 ·rw [if_pos hm]
  have hd := hall i hi hm
  obtain ⟨p1, -⟩ := points_bd hd hok.frm hall
  refine ⟨fun _ => ?_, fun hb => (by cases hb)⟩
  unfold motS
  by_cases hb : s.begun = true
  ·rw [if_pos hb, if_pos hb]
   obtain ⟨g1, g2⟩ := h.begun hb
   exact ⟨g1, fold_inv _ _ p1 g2⟩
  ·rw [if_neg hb, if_neg hb]
   obtain ⟨g1, g2, g3⟩ := h.empty (by simpa using hb)
   refine ⟨Qbv (fine_bd hd.1.2.1) (by decide), fold_inv _ _ p1 ?_⟩
   rw [g1, g2]
   exact ⟨trivial, rfl, rfl⟩
 ·rw [if_neg hm]
  exact ⟨h.begun, h.empty⟩
theorem buildN_inv {items : List Itm} (hright : ∀ j < items.length, ¬ Qel (itA items j)) : ∀ i, i <= items.length -> BInv (Qal items i)
 | 0, _ => by rw [Qal]; exact ⟨fun h => (by cases h), fun _ => ⟨rfl, rfl, rfl⟩⟩
 | i + 1, hi => by rw [Qal]; exact bStep_inv (by omega) hright (buildN_ok hright i (by omega)) (buildN_inv hright i (by omega))
structure GoodPath (p : Pth) : Prop where
 start : bd B26 p.start
 segs : goodSegs p.start p.segs
 count : p.segs.length <= 983055
theorem goodP_of {items : List Itm} (hlen : items.length <= 15) (hc : Qkz items = 0) : GoodPath (Qdf items) := by
 have hright := (check_right hc).2
 have h1 := buildN_ok hright items.length (Nat.le_refl _)
 have h2 := buildN_inv hright items.length (Nat.le_refl _)
 have hs := h1.segs
 unfold Qdf
 by_cases hb : (Qal items items.length).begun = true
 ·obtain ⟨g1, g2, -⟩ := h2.begun hb
  exact ⟨g1, g2, by simp only; omega⟩
 ·obtain ⟨g1, -, g3⟩ := h2.empty (by simpa using hb)
  refine ⟨?_, ?_, ?_⟩
  ·simp only [g3]; unfold bd; simp
  ·simp only [g1]; trivial
  ·simp only [g1]; simp
theorem len_pos {a b : Pt} (ha : bd B26 a) (hb : bd B26 b) (h : b ≠ a) : 1 <= lenP a b /\ lenP a b <= 268435456 := by
 obtain ⟨-, h1, h2, -⟩ := s_cncref23_Length ha hb
 have h3 : sqD a b ≠ 0 := fun e => h (sqD_zero.1 e).symm
 have h4 := sqD_nn a b
 have h5 := len_bd ha hb
 refine ⟨?_, h5.2⟩
 by_cases c : lenP a b = 0
 ·rw [c] at h2; omega
 ·omega
theorem good_len {a : Pt} {l : List Sgm} (ha : bd B26 a) (h : goodSegs a l) : ∀ g ∈ l, 1 <= g.len /\ g.len <= 268435456 /\ bd B26 g.to := by
 induction l generalizing a with
 | nil => simp
 | cons k l ih =>
  obtain ⟨h1, h2, h3, h4⟩ := h
  intro g hg
  rcases List.mem_cons.1 hg with rfl | hg
  ·rw [h1]; exact ⟨(len_pos ha h3 h2).1, (len_pos ha h3 h2).2, h3⟩
  ·exact ih h3 h4 g hg
theorem sum_bd {l : List Sgm} (h : ∀ g ∈ l, 1 <= g.len /\ g.len <= 268435456 /\ bd B26 g.to) : (l.length : Int) <= Qay l /\ Qay l <= l.length * 268435456 := by
 induction l with
 | nil => simp [Qay]
 | cons k l ih =>
  have := ih fun g hg => h g (by simp [hg])
  have := h k (by simp)
  simp only [Qay, List.length_cons]
  omega
end Go.Bm
/- positions of a path: its length, the segment and the point at a position -/
set_option maxRecDepth 100000
namespace Go.Bm
open Classical

def midP (a : Pt) (g : Sgm) (d : Int) : Pt := ⟨a.x + near ((g.to.x - a.x) * d) g.len, a.y + near ((g.to.y - a.y) * d) g.len, a.z + near ((g.to.z - a.z) * d) g.len⟩
def atL : Pt -> List Sgm -> Int -> Pt
 | a, [], _ => a
 | a, g :: l, s => if s < g.len then midP a g s else atL g.to l (s - g.len)
def atP (p : Pth) (s : Int) : Pt := atL p.start p.segs (max s 0)
def Qmc : List Sgm -> Int -> Nat × Int
 | [], s => (0, s)
 | [g], s => if s < g.len then (0, s) else (0, g.len)
 | g :: h :: l, s => if s < g.len then (0, s) else ((Qmc (h :: l) (s - g.len)).1 + 1, (Qmc (h :: l) (s - g.len)).2)
def vertL (a : Pt) (l : List Sgm) (i : Nat) : Pt := endOf a (l.take i)
def sg0 : Sgm := ⟨⟨0, 0, 0⟩, 0, 0, 0, 0⟩
def sgA (l : List Sgm) (i : Nat) : Sgm := l.getD i sg0
theorem sgA_get {l : List Sgm} {i : Nat} (h : i < l.length) : sgA l i = l[i] := by unfold sgA; simp [h]
theorem row_sgA {l : List Sgm} {i : Nat} (h : i < l.length) : nth [] (l.map sgmR) i = sgmR (sgA l i) := by rw [sgA_get h]; exact nth_map _ _ _ _ h
theorem sgA_mem {l : List Sgm} {i : Nat} (h : i < l.length) : sgA l i ∈ l := by rw [sgA_get h]; exact List.getElem_mem h
theorem vert_zero (a : Pt) (l : List Sgm) : vertL a l 0 = a := by unfold vertL; simp [endOf]
theorem vert_cons (a : Pt) (g : Sgm) (l : List Sgm) (i : Nat) : vertL a (g :: l) (i + 1) = vertL g.to l i := by unfold vertL; rw [List.take_succ_cons]; rfl
theorem sgA_cons (g : Sgm) (l : List Sgm) (i : Nat) : sgA (g :: l) (i + 1) = sgA l i := by unfold sgA; simp
theorem vert_succ : ∀ {l : List Sgm} {i : Nat} {a : Pt}, i < l.length -> vertL a l (i + 1) = (sgA l i).to
 | g :: l, 0, a, _ => by rw [vert_cons, vert_zero]; rfl
 | g :: l, i + 1, a, h => by rw [vert_cons, sgA_cons]; exact vert_succ (by simpa using h)
theorem near_full {x n : Int} (hn : 0 < n) : near (x * n) n = x := near_mul hn
theorem mid_full {a : Pt} {g : Sgm} (h : 0 < g.len) : midP a g g.len = g.to := by
 unfold midP
 rw [near_full h, near_full h, near_full h]
 rw [Qi5]
 exact ⟨by simp only; omega, by simp only; omega, by simp only; omega⟩
theorem mid_zero {a : Pt} {g : Sgm} (h : 0 < g.len) : midP a g 0 = a := by
 unfold midP
 have e : near 0 g.len = 0 := near_of h (by omega) (by omega)
 rw [Int.mul_zero, Int.mul_zero, Int.mul_zero, e]
 rw [Qi5]
 exact ⟨by simp, by simp, by simp⟩
theorem atL_zero {a : Pt} {l : List Sgm} (h : ∀ g ∈ l, 1 <= g.len) : atL a l 0 = a := by
 cases l with
 | nil => rfl
 | cons g l =>
  have := h g (by simp)
  unfold atL
  rw [if_pos (by omega), mid_zero (by omega)]
theorem find_at : ∀ {l : List Sgm} {a : Pt} {s : Int}, l ≠ [] -> (∀ g ∈ l, 1 <= g.len) -> 0 <= s ->
  (Qmc l s).1 < l.length /\ 0 <= (Qmc l s).2 /\ (Qmc l s).2 <= (sgA l (Qmc l s).1).len /\ atL a l s = midP (vertL a l (Qmc l s).1) (sgA l (Qmc l s).1) (Qmc l s).2
 | [], _, _, h, _, _ => absurd rfl h
 | [g], a, s, _, hg, hs => by
  have h1 := hg g (by simp)
  unfold Qmc
  by_cases c : s < g.len
  ·rw [if_pos c]
   refine ⟨by simp, hs, by show s <= g.len; omega, ?_⟩
   unfold atL
   rw [if_pos c, vert_zero]; rfl
  ·rw [if_neg c]
   refine ⟨by simp, by simp only; omega, Int.le_refl _, ?_⟩
   unfold atL
   rw [if_neg c, vert_zero]
   show atL g.to [] _ = midP a g g.len
   rw [mid_full (by omega)]; rfl
 | g :: h :: l, a, s, _, hg, hs => by
  have h1 := hg g (by simp)
  unfold Qmc
  by_cases c : s < g.len
  ·rw [if_pos c]
   refine ⟨by simp, hs, by show s <= g.len; omega, ?_⟩
   unfold atL
   rw [if_pos c, vert_zero]; rfl
  ·rw [if_neg c]
   obtain ⟨k1, k2, k3, k4⟩ := find_at (l := h :: l) (a := g.to) (s := s - g.len) (by simp) (fun k hk => hg k (by simp at hk ⊢; exact .inr hk)) (by omega)
   refine ⟨by simp at k1 ⊢; omega, k2, ?_, ?_⟩
   ·simp only [sgA_cons]; exact k3
   ·rw [show atL a (g :: h :: l) s = atL g.to (h :: l) (s - g.len) from by rw [atL, if_neg c]]
    simp only [vert_cons, sgA_cons]
    exact k4
theorem near_bd {x n : Int} {A : Nat} (hn : 0 < n) (h : -(A * n) <= x /\ x <= A * n) : (near x n).natAbs <= A := by
 have m1 := near_mono hn h.2
 have m2 := near_mono hn h.1
 rw [show -((A : Int) * n) = -(A : Int) * n by rw [Int.neg_mul]] at m2
 rw [near_mul hn] at m1 m2
 omega
theorem mid_bd2 {D L d : Int} (hL : 0 < L) (hD : D.natAbs <= 134217728) (hd : 0 <= d /\ d <= L) : (near (D * d) L).natAbs <= 134217728 := by
 refine near_bd hL ?_
 have h1 : D * d <= 134217728 * d := Int.mul_le_mul_of_nonneg_right (by omega) hd.1
 have h2 : -134217728 * d <= D * d := Int.mul_le_mul_of_nonneg_right (by omega) hd.1
 have e : ((134217728 : Nat) : Int) = 134217728 := rfl
 rw [e]
 omega
structure SegOK (l : List Sgm) : Prop where
 seg : ∀ g ∈ l, 1 <= g.len /\ g.len <= 268435456 /\ bd B26 g.to
 count : l.length <= 983055
theorem GoodPath.ok {p : Pth} (h : GoodPath p) : SegOK p.segs := ⟨good_len h.start h.segs, h.count⟩
theorem vert_bd {a : Pt} {l : List Sgm} (ha : bd B26 a) (h : SegOK l) {i : Nat} (hi : i < l.length) : bd B26 (vertL a l i) := by
 cases i with
 | zero => rw [vert_zero]; exact ha
 | succ i => rw [vert_succ (by omega)]; exact (h.seg _ (sgA_mem (by omega))).2.2

theorem l_path_Length {l : List Sgm} (h : SegOK l) : ∀ (k i : Nat) (v : Int), i + k = l.length -> 0 <= v -> v + k * 268435456 <= 4000000000000000000 ->
  Qby Qk3 [I v, .view kSgm (l.map sgmR), I l.length, I i] = some (1, [I (v + Qay (l.drop i))])
 | 0, i, v, hi, _, _ => by
  refine Qb1 ?_ (by simp)
  rw [st_path_Length_3_eq, Qbs (by omega), List.drop_of_length_le (by omega)]
  simp [Qay]
 | k + 1, i, v, hi, h0, h1 => by
  have hlt : i < l.length := by omega
  have hcn := h.count
  have hg := h.seg _ (sgA_mem hlt)
  have hst : Qk3 [I v, .view kSgm (l.map sgmR), I l.length, I i] = some (0, [I (v + (sgA l i).len), .view kSgm (l.map sgmR), I l.length, I (i + 1 : Nat)]) := by
   rw [st_path_Length_3_eq]
   simp only [go_sem, List.length_map, Int.toNat_natCast, row_sgA hlt]
   rw [if_pos (by omega), if_pos (by omega), Qab (x := v + _) (by omega), Qab (by omega)]
   rfl
  rw [Qbr hst, l_path_Length h k (i + 1) _ (by omega) (by omega) (by omega)]
  have e : l.drop i = sgA l i :: l.drop (i + 1) := by rw [sgA_get hlt]; exact Qg1 _ _ hlt
  rw [e]
  simp only [Qay, Int.add_assoc]
theorem s_path_Length {p : Pth} (h : SegOK p.segs) : Qe5 (pthR p) = some [I (Qay p.segs)] := by
 have hl := l_path_Length h p.segs.length 0 0 (by omega) (by omega) (by have := h.count; omega)
 have hl' : Qnp [I 0, .view kSgm (p.segs.map sgmR), I p.segs.length, I 0] = some (1, [I (0 + Qay (p.segs.drop 0))]) := hl
 rw [List.drop_zero, Int.zero_add] at hl'
 unfold Qe5
 generalize Qnp = N at *
 rw [mf_path_Length_eq]
 simp only [go_sem, List.length_map, hl']
theorem findL_step {g h : Sgm} {l : List Sgm} {s : Int} (c : ¬ s < g.len) : Qmc (g :: h :: l) s = ((Qmc (h :: l) (s - g.len)).1 + 1, (Qmc (h :: l) (s - g.len)).2) := by rw [Qmc, if_neg c]
theorem l_path_Find {p : Pth} (h : SegOK p.segs) : ∀ (k i : Nat) (s : Int), i + k = p.segs.length -> 1 <= k -> 0 <= s /\ s <= 9223372036854775807 ->
  Qby st_path_Find_3 (I s :: .view kSgm (p.segs.map sgmR) :: I p.segs.length :: I i :: pthR p) = some (1, [I (i + (Qmc (p.segs.drop i) s).1 : Nat), I (Qmc (p.segs.drop i) s).2])
 | k + 1, i, s, hi, _, hs => by
  have hlt : i < p.segs.length := by omega
  have hcnt := h.count
  have hg := h.seg _ (sgA_mem hlt)
  have e : p.segs.drop i = sgA p.segs i :: p.segs.drop (i + 1) := by rw [sgA_get hlt]; exact Qg1 _ _ hlt
  have hst : st_path_Find_3 (I s :: .view kSgm (p.segs.map sgmR) :: I p.segs.length :: I i :: pthR p) = if s < (sgA p.segs i).len then some (1, [I i, I s]) else if k = 0 then some (1, [I i, I (sgA p.segs i).len]) else some (0, I (s - (sgA p.segs i).len) :: .view kSgm (p.segs.map sgmR) :: I p.segs.length :: I (i + 1 : Nat) :: pthR p) := by
   rw [st_path_Find_3_eq]
   simp only [go_sem, List.length_map, Int.toNat_natCast, row_sgA hlt]
   rw [if_pos (by omega), if_pos (by omega), Qab (x := (p.segs.length : Int) - 1) (by omega), Qab (x := (i : Int) + 1) (by omega)]
   by_cases c : s < (sgA p.segs i).len
   ·rw [if_pos c, if_pos c]
   ·rw [if_neg c, if_neg c]
    by_cases c2 : k = 0
    ·rw [if_pos (by omega), if_pos c2]
    ·rw [if_neg (by omega), if_neg c2, Qab (by omega)]; rfl
  by_cases c : s < (sgA p.segs i).len
  ·rw [if_pos c] at hst
   rw [Qb1 hst (by simp), e]
   cases p.segs.drop (i + 1) with
   | nil => rw [Qmc, if_pos c]; rfl
   | cons b l => rw [Qmc, if_pos c]; rfl
  ·rw [if_neg c] at hst
   by_cases c2 : k = 0
   ·rw [if_pos c2] at hst
    rw [Qb1 hst (by simp), e, List.drop_of_length_le (by omega), Qmc, if_neg c]; rfl
   ·rw [if_neg c2] at hst
    rw [Qbr hst, l_path_Find h k (i + 1) _ (by omega) (by omega) (by omega), e]
    have e2 : p.segs.drop (i + 1) = sgA p.segs (i + 1) :: p.segs.drop (i + 1 + 1) := by rw [sgA_get (show i + 1 < p.segs.length by omega)]; exact Qg1 _ _ (by omega)
    rw [e2, findL_step c, <- e2]
    simp only
    rw [show i + 1 + (Qmc (p.segs.drop (i + 1)) (s - (sgA p.segs i).len)).1 = i + ((Qmc (p.segs.drop (i + 1)) (s - (sgA p.segs i).len)).1 + 1) by omega]
theorem s_path_Find {p : Pth} (h : SegOK p.segs) {s : Int} (hs : i64 s) : Qly (pthR p ++ [I s]) = if p.segs = [] then some [I (-1), I 0] else some [I (Qmc p.segs (max s 0)).1, I (Qmc p.segs (max s 0)).2] := by
 unfold i64 at hs
 have hmx : mx s 0 = max s 0 := mx_max' s 0
 by_cases c : p.segs = []
 ·rw [if_pos c]
  have hend : Qj5 (I (max s 0) :: .view kSgm [] :: I 0 :: I 0 :: pthR p) = some (2, []) := by
   refine Qb1 ?_ (by simp)
   rw [st_path_Find_3_eq, Qbs (by omega)]
  unfold Qly
  generalize Qj5 = N at *
  have he := mf_path_Find_eq N p.start.x p.start.y p.start.z (p.segs.map sgmR) (p.marks.map mrkR) s
  refine Eq.trans he ?_
  rw [hmx, c]
  have hend' : N [I (max s 0), .view kSgm [], I 0, I 0, I p.start.x, I p.start.y, I p.start.z, .view kSgm [], .view kMrk (p.marks.map mrkR)] = some (2, []) := by
   have := hend
   unfold pthR at this
   rw [c] at this
   exact this
  simp only [go_sem, List.map_nil, List.length_nil]
  simp only [Int.natCast_zero]
  rw [hend']
  simp
 ·rw [if_neg c]
  have hpos : 0 < p.segs.length := by
   cases hh : p.segs with
   | nil => exact absurd hh c
   | cons _ _ => simp
  have hL := l_path_Find h p.segs.length 0 (max s 0) (by omega) (by omega) (by omega)
  have hL' : Qj5 [I (max s 0), .view kSgm (p.segs.map sgmR), I p.segs.length, I 0, I p.start.x, I p.start.y, I p.start.z, .view kSgm (p.segs.map sgmR), .view kMrk (p.marks.map mrkR)] = some (1, [I (0 + (Qmc (p.segs.drop 0) (max s 0)).1 : Nat), I (Qmc (p.segs.drop 0) (max s 0)).2]) := hL
  rw [List.drop_zero, Nat.zero_add] at hL'
  unfold Qly
  generalize Qj5 = N at *
  have he := mf_path_Find_eq N p.start.x p.start.y p.start.z (p.segs.map sgmR) (p.marks.map mrkR) s
  refine Eq.trans he ?_
  rw [hmx]
  simp only [go_sem, List.length_map, hL']
where mx_max' (a b : Int) : mx a b = max a b := by unfold mx; rw [Int.max_def]; split <;> split <;> omega
theorem a_path_At {MM MF : List AC -> Option (List AC)} {p : Pth} (h : GoodPath p) {s : Int} (hF : MF (pthR p ++ [I s]) = if p.segs = [] then some [I (-1), I 0] else some [I (Qmc p.segs (max s 0)).1, I (Qmc p.segs (max s 0)).2])
  (hM : ∀ {a b c : Int}, a.natAbs <= 134217728 -> b.natAbs <= 268435456 -> (0 < c /\ c <= 268435456) -> MM [I a, I b, I c, I 2] = some [I (near (a * b) c), B true]) :
  mf_path_At MM MF (pthR p ++ [I s]) = some (ptR (atP p s)) := by
 have he := mf_path_At_eq (Qak := MM) (Ql1 := MF) p.start.x p.start.y p.start.z (p.segs.map sgmR) (p.marks.map mrkR) s
 refine Eq.trans he ?_
 simp only [List.cons_append, List.nil_append, pthR] at hF
 unfold atP
 by_cases c : p.segs = []
 ·rw [if_pos c] at hF
  simp only [hF, go_sem]
  rw [if_pos (by omega), c]; rfl
 ·rw [if_neg c] at hF
  have hok := h.ok
  obtain ⟨f1, f2, f3, f4⟩ := find_at (l := p.segs) (a := p.start) (s := max s 0) c (fun g hg => (hok.seg g hg).1) (by omega)
  rw [f4]
  have hg := hok.seg _ (sgA_mem f1)
  have hv := vert_bd h.start hok f1
  have hr := row_sgA f1
  have hcnt := hok.count
  generalize (Qmc p.segs (max s 0)).1 = i at *
  generalize (Qmc p.segs (max s 0)).2 = d at *
  have hdn : d.natAbs <= 268435456 := by omega
  have fin : ∀ {a : Pt}, bd B26 a -> (MM [I (IntKind.i64.wrap ((sgA p.segs i).to.x - a.x)), I d, I (sgA p.segs i).len, I 2] = some [I (near (((sgA p.segs i).to.x - a.x) * d) (sgA p.segs i).len), B true] /\ IntKind.i64.wrap (a.x + near (((sgA p.segs i).to.x - a.x) * d) (sgA p.segs i).len) = a.x + near (((sgA p.segs i).to.x - a.x) * d) (sgA p.segs i).len) /\
    (MM [I (IntKind.i64.wrap ((sgA p.segs i).to.y - a.y)), I d, I (sgA p.segs i).len, I 2] = some [I (near (((sgA p.segs i).to.y - a.y) * d) (sgA p.segs i).len), B true] /\ IntKind.i64.wrap (a.y + near (((sgA p.segs i).to.y - a.y) * d) (sgA p.segs i).len) = a.y + near (((sgA p.segs i).to.y - a.y) * d) (sgA p.segs i).len) /\
    (MM [I (IntKind.i64.wrap ((sgA p.segs i).to.z - a.z)), I d, I (sgA p.segs i).len, I 2] = some [I (near (((sgA p.segs i).to.z - a.z) * d) (sgA p.segs i).len), B true] /\ IntKind.i64.wrap (a.z + near (((sgA p.segs i).to.z - a.z) * d) (sgA p.segs i).len) = a.z + near (((sgA p.segs i).to.z - a.z) * d) (sgA p.segs i).len) := by
   intro a ha
   have key : ∀ u v : Int, u.natAbs <= B26 -> v.natAbs <= B26 -> MM [I (IntKind.i64.wrap (u - v)), I d, I (sgA p.segs i).len, I 2] = some [I (near ((u - v) * d) (sgA p.segs i).len), B true] /\ IntKind.i64.wrap (v + near ((u - v) * d) (sgA p.segs i).len) = v + near ((u - v) * d) (sgA p.segs i).len := by
    intro u v hu hv
    have h1 := sub_nat hu hv
    rw [wrap_nat h1 (by decide)]
    refine ⟨hM (Nat.le_trans h1 (by decide)) hdn (by omega), ?_⟩
    exact wrap_nat (add_nat hv (mid_bd2 (by omega) (Nat.le_trans h1 (by decide)) ⟨f2, f3⟩)) (by decide)
   exact ⟨key _ _ hg.2.2.1 ha.1, key _ _ hg.2.2.2.1 ha.2.1, key _ _ hg.2.2.2.2 ha.2.2⟩
  have hin : (0 : Int) <= (i : Int) /\ (i : Int) < (p.segs.length : Int) := by omega
  simp only [hF, go_sem, List.length_map, Int.toNat_natCast, hr, if_pos hin]
  rw [if_neg (by omega)]
  by_cases c0 : i = 0
  ·subst c0
   obtain ⟨⟨m1, w1⟩, ⟨m2, w2⟩, m3, w3⟩ := fin h.start
   rw [if_neg (by omega), vert_zero]
   simp only [m1, m2, m3, go_sem, w1, w2, w3]
   rfl
  ·obtain ⟨j, rfl⟩ : ∃ j, i = j + 1 := ⟨i - 1, by omega⟩
   have hj := row_sgA (l := p.segs) (i := j) (by omega)
   have hgj := hok.seg _ (sgA_mem (l := p.segs) (i := j) (by omega))
   obtain ⟨⟨m1, w1⟩, ⟨m2, w2⟩, m3, w3⟩ := fin hgj.2.2
   rw [if_pos (by omega), vert_succ (by omega)]
   have e1 : IntKind.i64.wrap (((j + 1 : Nat) : Int) - 1) = (j : Int) := by rw [Qab (by omega)]; omega
   rw [e1]
   simp only [Int.toNat_natCast, hj, go_sem]
   rw [if_pos (by omega)]
   simp only [m1, m2, m3, go_sem, w1, w2, w3]
   rfl
theorem s_MulDivA {a b c : Int} (ha : a.natAbs <= 134217728) (hb : b.natAbs <= 268435456) (hc : 0 < c /\ c <= 268435456) : Qbh [I a, I b, I c, I 2] = some [I (near (a * b) c), B true] := by
 have := Nat.mul_le_mul ha hb
 exact s_wide_MulDiv (by unfold i64; omega) (by unfold i64; omega) (by omega) (by omega)
theorem s_path_At {p : Pth} (h : GoodPath p) {s : Int} (hs : i64 s) : m_path_At (pthR p ++ [I s]) = some (ptR (atP p s)) :=
 a_path_At h (s_path_Find h.ok hs) s_MulDivA
end Go.Bm
/- positions of a path in the reference; the path of the law's maker -/
set_option maxRecDepth 100000
namespace Go.Bm
open Classical

theorem sum_path {p : Pth} (h : GoodPath p) : 0 <= Qay p.segs /\ Qay p.segs <= 263886834032640 := by
 have h1 := sum_bd h.ok.seg
 have h2 := h.count
 omega
end Go.Bm
/- tracks: pieces, how a piece is added, the way over a path -/
set_option maxRecDepth 100000
namespace Go.Bm
open Classical

theorem nth_40 {α : Type} (d x : α) (l : List α) : nth d (x :: l) 40 = nth d l 39 := by simp [nth]
theorem nth_41 {α : Type} (d x : α) (l : List α) : nth d (x :: l) 41 = nth d l 40 := by simp [nth]
theorem nth_42 {α : Type} (d x : α) (l : List α) : nth d (x :: l) 42 = nth d l 41 := by simp [nth]
theorem nth_43 {α : Type} (d x : α) (l : List α) : nth d (x :: l) 43 = nth d l 42 := by simp [nth]
theorem nth_44 {α : Type} (d x : α) (l : List α) : nth d (x :: l) 44 = nth d l 43 := by simp [nth]
theorem nth_45 {α : Type} (d x : α) (l : List α) : nth d (x :: l) 45 = nth d l 44 := by simp [nth]
theorem nth_46 {α : Type} (d x : α) (l : List α) : nth d (x :: l) 46 = nth d l 45 := by simp [nth]
theorem nth_47 {α : Type} (d x : α) (l : List α) : nth d (x :: l) 47 = nth d l 46 := by simp [nth]
theorem nth_48 {α : Type} (d x : α) (l : List α) : nth d (x :: l) 48 = nth d l 47 := by simp [nth]
theorem nth_49 {α : Type} (d x : α) (l : List α) : nth d (x :: l) 49 = nth d l 48 := by simp [nth]
theorem nth_50 {α : Type} (d x : α) (l : List α) : nth d (x :: l) 50 = nth d l 49 := by simp [nth]
theorem nth_51 {α : Type} (d x : α) (l : List α) : nth d (x :: l) 51 = nth d l 50 := by simp [nth]
theorem nth_52 {α : Type} (d x : α) (l : List α) : nth d (x :: l) 52 = nth d l 51 := by simp [nth]
theorem nth_53 {α : Type} (d x : α) (l : List α) : nth d (x :: l) 53 = nth d l 52 := by simp [nth]
theorem nth_54 {α : Type} (d x : α) (l : List α) : nth d (x :: l) 54 = nth d l 53 := by simp [nth]
theorem nth_55 {α : Type} (d x : α) (l : List α) : nth d (x :: l) 55 = nth d l 54 := by simp [nth]
attribute [go_sem] nth_40 nth_41 nth_42 nth_43 nth_44 nth_45 nth_46 nth_47 nth_48 nth_49 nth_50 nth_51 nth_52 nth_53 nth_54 nth_55
theorem mn_eq (a b : Int) : mn a b = min a b := by unfold mn; rw [Int.min_def]; split <;> split <;> omega
theorem mx_eq (a b : Int) : mx a b = max a b := by unfold mx; rw [Int.max_def]; split <;> split <;> omega

structure Ax3 where
 (a b c : Axs)
abbrev ax3R (x : Ax3) : List AC := [I x.a.step, I x.a.speed, I x.a.accel, I x.a.jerk, I x.a.low, I x.a.high, I x.a.back, I x.a.origin, I x.a.spacing, .view Qac (x.a.pitch.map intR), I x.b.step, I x.b.speed, I x.b.accel, I x.b.jerk, I x.b.low, I x.b.high, I x.b.back, I x.b.origin, I x.b.spacing, .view Qac (x.b.pitch.map intR), I x.c.step, I x.c.speed, I x.c.accel, I x.c.jerk, I x.c.low, I x.c.high, I x.c.back, I x.c.origin, I x.c.spacing, .view Qac (x.c.pitch.map intR)]
def turn1 (now a b mv : Int) : Int := if b > a then mv else if b < a then -mv else now
def turnD (now a b : Pt) (mv : Int) : Pt := ⟨turn1 now.x a.x b.x mv, turn1 now.y a.y b.y mv, turn1 now.z a.z b.z mv⟩
def slk (was dirs n v : Int) : Int := if was = dirs then v else max v n
def Qf5 (x : Ax3) (was dirs : Pt) : Int := slk was.z dirs.z x.c.back (slk was.y dirs.y x.b.back (slk was.x dirs.x x.a.back 0))
def pc0 : Pce := ⟨0, 0, 0, 0, ⟨0, 0, 0⟩, ⟨0, 0, 0⟩⟩
def Qec (l : List Pce) : Pce := l.getD (l.length - 1) pc0
def addT (t : Trk) (c : Pce) : Trk :=
 if t.pieces ≠ [] /\ c.move ≠ 0 /\ (Qec t.pieces).move = c.move /\ (Qec t.pieces).dirs = c.dirs then
  { t with pieces := t.pieces.set (t.pieces.length - 1) { Qec t.pieces with units := (Qec t.pieces).units + c.units }, length := t.length + c.units }
 else { t with pieces := t.pieces ++ [{ c with at_ := t.length }], length := t.length + c.units }
def posL (l : List Sgm) (i : Nat) : Int := Qay (l.take i)
def Qkt (x : Ax3) (mv : Int) (a b : Pt) (s units : Int) (st : Trk × Pt) : Trk × Pt :=
 (addT (if Qf5 x st.2 (turnD st.2 a b mv) > 0 then addT st.1 ⟨0, Qf5 x st.2 (turnD st.2 a b mv), s, 0, st.2, turnD st.2 a b mv⟩ else st.1)
  ⟨0, units, s, mv, turnD st.2 a b mv, turnD st.2 a b mv⟩, turnD st.2 a b mv)
def segT (p : Pth) (x : Ax3) (mv lo hi : Int) (i : Nat) (s : Trk × Pt) : Trk × Pt :=
 if max (posL p.segs i) lo < min (posL p.segs (i + 1)) hi then
  Qkt x mv (vertL p.start p.segs i) (sgA p.segs i).to (if mv < 0 then min (posL p.segs (i + 1)) hi else max (posL p.segs i) lo) (min (posL p.segs (i + 1)) hi - max (posL p.segs i) lo) s
 else s
def idxT (n : Nat) (mv : Int) (j : Nat) : Nat := if mv < 0 then n - 1 - j else j
def legN (p : Pth) (x : Ax3) (mv lo hi : Int) (t0 : Trk × Pt) : Nat -> Trk × Pt
 | 0 => t0
 | j + 1 => segT p x mv lo hi (idxT p.segs.length mv j) (legN p x mv lo hi t0 j)
def Qct (n hi : Int) : Int := max 0 (min n hi)
def legP (p : Pth) (x : Ax3) (d : Pt) (from_ to : Int) : Trk :=
 let n := Qay p.segs
 let f := Qct from_ n
 let t := Qct to n
 (legN p x (if f > t then -1 else 1) (min f t) (max f t) (⟨[], 0, f, d⟩, d) p.segs.length).1

structure Ax3OK (x : Ax3) : Prop where
 a : 0 <= x.a.back /\ x.a.back <= 1000
 b : 0 <= x.b.back /\ x.b.back <= 1000
 c : 0 <= x.c.back /\ x.c.back <= 1000
theorem slack_bd {x : Ax3} (h : Ax3OK x) (a b : Pt) : 0 <= Qf5 x a b /\ Qf5 x a b <= 1000 := by
 obtain ⟨h1, h2, h3⟩ := h
 unfold Qf5 slk
 (repeat' split) <;> omega
structure TB (t : Trk) (n m : Int) : Prop where
 count : (t.pieces.length : Int) <= n
 len : 0 <= t.length /\ t.length <= m
 each : ∀ c ∈ t.pieces, 0 <= c.units /\ c.units <= t.length
theorem lastP_mem {l : List Pce} (h : l ≠ []) : Qec l ∈ l := by
 have hp : 0 < l.length := by cases l with
  | nil => exact absurd rfl h
  | cons _ _ => simp
 have hlt : l.length - 1 < l.length := by omega
 unfold Qec
 rw [List.getD_eq_getElem?_getD, List.getElem?_eq_getElem hlt, Option.getD_some]
 exact List.getElem_mem _
theorem addT_bd {t : Trk} {n m : Int} (h : TB t n m) {c : Pce} {k : Int} (hc : 0 <= c.units /\ c.units <= k) : TB (addT t c) (n + 1) (m + k) := by
 obtain ⟨h1, h2, h3⟩ := h
 unfold addT
 by_cases g : t.pieces ≠ [] /\ c.move ≠ 0 /\ (Qec t.pieces).move = c.move /\ (Qec t.pieces).dirs = c.dirs
 ·rw [if_pos g]
  refine ⟨by simp only [List.length_set]; omega, by simp only; omega, ?_⟩
  intro q hq
  rcases List.mem_or_eq_of_mem_set hq with hq | rfl
  ·have := h3 q hq; simp only; omega
  ·have := h3 _ (lastP_mem g.1); simp only; omega
 ·rw [if_neg g]
  refine ⟨by simp only [List.length_append, List.length_cons, List.length_nil]; omega, by simp only; omega, ?_⟩
  intro q hq
  rcases List.mem_append.1 hq with hq | hq
  ·have := h3 q hq; simp only; omega
  ·rw [List.mem_singleton] at hq; subst hq; simp only; omega
theorem addT_keep (t : Trk) (c : Pce) : (addT t c).start = t.start /\ (addT t c).dirs = t.dirs := by
 unfold addT
 split <;> exact ⟨rfl, rfl⟩
theorem posL_zero (l : List Sgm) : posL l 0 = 0 := by unfold posL; rw [List.take_zero]; rfl
theorem posL_succ {l : List Sgm} {i : Nat} (h : i < l.length) : posL l (i + 1) = posL l i + (sgA l i).len := by
 unfold posL
 rw [List.take_add_one, List.getElem?_eq_getElem h, Option.toList_some, sumLen_snoc, sgA_get h]
theorem posL_len (l : List Sgm) : posL l l.length = Qay l := by unfold posL; rw [List.take_length]
theorem posL_bd {l : List Sgm} (h : SegOK l) : ∀ i, i <= l.length -> 0 <= posL l i /\ posL l i <= i * 268435456
 | 0, _ => by rw [posL_zero]; simp
 | i + 1, hi => by
  have := posL_bd h i (by omega)
  have := h.seg _ (sgA_mem (show i < l.length by omega))
  rw [posL_succ (by omega)]
  omega
theorem segT_bd {p : Pth} {x : Ax3} {mv lo hi : Int} {i : Nat} {s : Trk × Pt} {n m : Int} (hx : Ax3OK x) (hp : SegOK p.segs) (hi' : i < p.segs.length) (h : TB s.1 n m) : TB (segT p x mv lo hi i s).1 (n + 2) (m + 268436456) := by
 have hl := hp.seg _ (sgA_mem hi')
 have e := posL_succ hi'
 unfold segT
 by_cases c : max (posL p.segs i) lo < min (posL p.segs (i + 1)) hi
 ·rw [if_pos c]
  unfold Qkt
  have hs := slack_bd hx s.2 (turnD s.2 (vertL p.start p.segs i) (sgA p.segs i).to mv)
  have e1 : n + 2 = n + 1 + 1 := by omega
  have e2 : m + 268436456 = m + 1000 + 268435456 := by omega
  rw [e1, e2]
  refine addT_bd ?_ (by simp only; omega)
  by_cases c2 : Qf5 x s.2 (turnD s.2 (vertL p.start p.segs i) (sgA p.segs i).to mv) > 0
  ·rw [if_pos c2]; exact addT_bd h (by simp only; omega)
  ·rw [if_neg c2]; exact ⟨by have := h.count; omega, by have := h.len; omega, h.each⟩
 ·rw [if_neg c]; exact ⟨by have := h.count; omega, by have := h.len; omega, h.each⟩
theorem idxT_lt {n j : Nat} (mv : Int) (h : j < n) : idxT n mv j < n := by unfold idxT; split <;> omega
theorem legN_bd {p : Pth} {x : Ax3} {mv lo hi f : Int} {d : Pt} (hx : Ax3OK x) (hp : SegOK p.segs) : ∀ j, j <= p.segs.length -> TB (legN p x mv lo hi (⟨[], 0, f, d⟩, d) j).1 (j * 2) (j * 268436456)
 | 0, _ => ⟨by simp [legN], by simp [legN], by simp [legN]⟩
 | j + 1, hj => by
  have h := segT_bd (mv := mv) (lo := lo) (hi := hi) hx hp (idxT_lt mv (show j < p.segs.length by omega)) (legN_bd (mv := mv) (lo := lo) (hi := hi) (f := f) (d := d) hx hp j (by omega))
  rw [legN]
  have e1 : ((j + 1 : Nat) : Int) * 2 = j * 2 + 2 := by omega
  have e2 : ((j + 1 : Nat) : Int) * 268436456 = j * 268436456 + 268436456 := by omega
  rw [e1, e2]; exact h
theorem segT_keep {p : Pth} {x : Ax3} {mv lo hi : Int} {i : Nat} (s : Trk × Pt) : (segT p x mv lo hi i s).1.start = s.1.start /\ (segT p x mv lo hi i s).1.dirs = s.1.dirs := by
 unfold segT
 by_cases c : max (posL p.segs i) lo < min (posL p.segs (i + 1)) hi
 ·rw [if_pos c]
  unfold Qkt
  simp only [addT_keep]
  by_cases c2 : Qf5 x s.2 (turnD s.2 (vertL p.start p.segs i) (sgA p.segs i).to mv) > 0
  ·rw [if_pos c2]; simp only [addT_keep]; exact ⟨trivial, trivial⟩
  ·rw [if_neg c2]; exact ⟨rfl, rfl⟩
 ·rw [if_neg c]; exact ⟨rfl, rfl⟩
end Go.Bm
/- tracks: the chain of the pieces of a way -/
set_option maxRecDepth 100000
namespace Go.Bm
open Classical

def chain (x : Ax3) (mv : Int) (Q : Int -> Pt -> Prop) : Int -> Int -> Pt -> List Pce -> Prop
 | _, _, _, [] => True
 | at_, s, d, c :: l => c.at_ = at_ /\ c.s = s /\ 1 <= c.units /\ ((c.move = mv /\ c.was = c.dirs /\ Qf5 x d c.dirs = 0 /\ ∀ k, 0 <= k -> k < c.units -> Q (s + mv * k) c.dirs) \/ (c.move = 0 /\ c.was = d /\ c.units = Qf5 x d c.dirs)) /\ chain x mv Q (at_ + c.units) (s + c.move * c.units) c.dirs l
def Qkf : Int -> List Pce -> Int
 | a, [] => a
 | a, c :: l => Qkf (a + c.units) l
def endQ : Int -> List Pce -> Int
 | s, [] => s
 | s, c :: l => endQ (s + c.move * c.units) l
def endD : Pt -> List Pce -> Pt
 | d, [] => d
 | _, c :: l => endD c.dirs l
theorem endAt_snoc (c : Pce) : ∀ (a : Int) (l : List Pce), Qkf a (l ++ [c]) = Qkf a l + c.units
 | _, [] => rfl
 | _, k :: l => endAt_snoc c _ l
theorem endQ_snoc (c : Pce) : ∀ (s : Int) (l : List Pce), endQ s (l ++ [c]) = endQ s l + c.move * c.units
 | _, [] => rfl
 | _, k :: l => endQ_snoc c _ l
theorem endD_snoc (c : Pce) : ∀ (d : Pt) (l : List Pce), endD d (l ++ [c]) = c.dirs
 | _, [] => rfl
 | _, k :: l => endD_snoc c _ l
theorem chain_snoc {x : Ax3} {mv : Int} {Q : Int -> Pt -> Prop} {c : Pce} : ∀ {at_ s : Int} {d : Pt} {l : List Pce},
  chain x mv Q at_ s d (l ++ [c]) ↔ chain x mv Q at_ s d l /\ c.at_ = Qkf at_ l /\ c.s = endQ s l /\ 1 <= c.units /\ ((c.move = mv /\ c.was = c.dirs /\ Qf5 x (endD d l) c.dirs = 0 /\ ∀ k, 0 <= k -> k < c.units -> Q (endQ s l + mv * k) c.dirs) \/ (c.move = 0 /\ c.was = endD d l /\ c.units = Qf5 x (endD d l) c.dirs))
 | at_, s, d, [] => by
  simp only [List.nil_append, chain, Qkf, endQ, endD, and_true, true_and]
 | at_, s, d, k :: l => by
  simp only [List.cons_append, chain, Qkf, endQ, endD]
  rw [chain_snoc]
  constructor
  ·rintro ⟨h1, h2, h4, h5, h6, h7⟩; exact ⟨⟨h1, h2, h4, h5, h6⟩, h7⟩
  ·rintro ⟨⟨h1, h2, h4, h5, h6⟩, h7⟩; exact ⟨h1, h2, h4, h5, h6, h7⟩
theorem set_last {l : List Pce} (h : l ≠ []) (v : Pce) : l.set (l.length - 1) v = l.dropLast ++ [v] := by
 have e := List.dropLast_concat_getLast h
 have hl : l.length - 1 = l.dropLast.length := by rw [List.length_dropLast]
 conv => lhs; arg 1; rw [<- e]
 rw [hl, List.set_append_right _ _ (Nat.le_refl _), Nat.sub_self]
 rfl
theorem lastP_eq {l : List Pce} (h : l ≠ []) : l.dropLast ++ [Qec l] = l := by
 have e := List.dropLast_concat_getLast h
 have hp : 0 < l.length := by
  cases l with
  | nil => exact absurd rfl h
  | cons _ _ => simp
 have hlt : l.length - 1 < l.length := by omega
 have hl : Qec l = l.getLast h := by
  unfold Qec
  rw [List.getD_eq_getElem?_getD, List.getElem?_eq_getElem hlt, Option.getD_some, List.getLast_eq_getElem]
 rw [hl]; exact e
structure TC (x : Ax3) (mv : Int) (Q : Int -> Pt -> Prop) (t : Trk) (s : Int) (d : Pt) : Prop where
 ch : chain x mv Q 0 t.start t.dirs t.pieces
 len : Qkf 0 t.pieces = t.length
 s : endQ t.start t.pieces = s
 d : endD t.dirs t.pieces = d
theorem addT_chain {x : Ax3} {mv : Int} {Q : Int -> Pt -> Prop} {t : Trk} {s : Int} {d : Pt} (hm : mv ≠ 0) (h : TC x mv Q t s d) {c : Pce} (hs : c.s = s) (hu : 1 <= c.units)
  (hc : (c.move = mv /\ c.was = c.dirs /\ Qf5 x d c.dirs = 0 /\ ∀ k, 0 <= k -> k < c.units -> Q (s + mv * k) c.dirs) \/ (c.move = 0 /\ c.was = d /\ c.units = Qf5 x d c.dirs)) : TC x mv Q (addT t c) (s + c.move * c.units) c.dirs := by
 obtain ⟨h1, h2, h3, h4⟩ := h
 unfold addT
 by_cases g : t.pieces ≠ [] /\ c.move ≠ 0 /\ (Qec t.pieces).move = c.move /\ (Qec t.pieces).dirs = c.dirs
 ·rw [if_pos g]
  obtain ⟨g1, g2, g3, g4⟩ := g
  have e := lastP_eq g1
  rw [set_last g1]
  rw [<- e] at h1 h2 h3 h4
  rw [chain_snoc] at h1
  rw [endAt_snoc] at h2
  rw [endQ_snoc] at h3
  rw [endD_snoc] at h4
  generalize t.pieces.dropLast = I at *
  generalize Qec t.pieces = L at *
  obtain ⟨k0, k1, k2, k4, k5⟩ := h1
  replace hc := hc.resolve_right fun h => g2 h.1
  replace k5 := k5.resolve_right fun h => g2 (g3 ▸ h.1)
  obtain ⟨c1, c2, -, c3⟩ := hc
  obtain ⟨q1, q2, q4, q3⟩ := k5
  refine ⟨?_, ?_, ?_, ?_⟩
  ·show chain x mv Q 0 t.start t.dirs (I ++ [_])
   rw [chain_snoc]
   refine ⟨k0, k1, k2, by simp only; omega, .inl ⟨q1, q2, q4, ?_⟩⟩
   intro k hk0 hk1
   simp only at hk1
   by_cases hlt : k < L.units
   ·exact q3 k hk0 hlt
   ·have := c3 (k - L.units) (by omega) (by omega)
    rw [<- h3, q1, <- g4] at this
    have ea : endQ t.start I + mv * L.units + mv * (k - L.units) = endQ t.start I + mv * k := by rw [Int.mul_sub]; omega
    rw [ea] at this; exact this
  ·show Qkf 0 (I ++ [_]) = t.length + c.units
   rw [endAt_snoc]; simp only; omega
  ·show endQ t.start (I ++ [_]) = s + c.move * c.units
   rw [endQ_snoc]
   simp only
   rw [g3] at h3 ⊢
   rw [Int.mul_add]; omega
  ·show endD t.dirs (I ++ [_]) = c.dirs
   rw [endD_snoc]; exact g4
 ·rw [if_neg g]
  refine ⟨?_, ?_, ?_, ?_⟩
  ·show chain x mv Q 0 t.start t.dirs (t.pieces ++ [_])
   rw [chain_snoc]
   refine ⟨h1, h2.symm, by rw [h3]; exact hs, hu, ?_⟩
   rw [h3, h4]; exact hc
  ·show Qkf 0 (t.pieces ++ [_]) = t.length + c.units
   rw [endAt_snoc, h2]
  ·show endQ t.start (t.pieces ++ [_]) = s + c.move * c.units
   rw [endQ_snoc, h3]
  ·show endD t.dirs (t.pieces ++ [_]) = c.dirs
   rw [endD_snoc]
theorem slackD_self (x : Ax3) (d : Pt) : Qf5 x d d = 0 := by unfold Qf5 slk; simp
theorem visit_chain {x : Ax3} {mv : Int} {Q : Int -> Pt -> Prop} {t : Trk} {s units : Int} {d a b : Pt} (hm : mv ≠ 0) (hx : ∀ w d, 0 <= Qf5 x w d) (h : TC x mv Q t s d) (hu : 1 <= units) (hQ : ∀ k, 0 <= k -> k < units -> Q (s + mv * k) (turnD d a b mv)) :
  TC x mv Q (Qkt x mv a b s units (t, d)).1 (s + mv * units) (turnD d a b mv) := by
 unfold Qkt
 simp only
 generalize turnD d a b mv = nx at *
 by_cases c : Qf5 x d nx > 0
 ·rw [if_pos c]
  have h1 := addT_chain hm h (c := ⟨0, Qf5 x d nx, s, 0, d, nx⟩) rfl (by simp only; omega) (.inr ⟨rfl, rfl, rfl⟩)
  simp only [Int.zero_mul, Int.add_zero] at h1
  exact addT_chain hm h1 (c := ⟨0, units, s, mv, nx, nx⟩) rfl hu (.inl ⟨rfl, rfl, slackD_self x nx, hQ⟩)
 ·rw [if_neg c]
  have := hx d nx
  exact addT_chain hm h (c := ⟨0, units, s, mv, nx, nx⟩) rfl hu (.inl ⟨rfl, rfl, by simp only; omega, hQ⟩)
def wayS (l : List Sgm) (mv lo hi : Int) (j : Nat) : Int := if mv < 0 then min (max (posL l (l.length - j)) lo) hi else min (max (posL l j) lo) hi
def SegQ (p : Pth) (mv : Int) (Q : Int -> Pt -> Prop) : Prop := ∀ i, i < p.segs.length -> ∀ (d : Pt) (s : Int), posL p.segs i <= s -> s <= posL p.segs (i + 1) -> posL p.segs i <= s + mv -> s + mv <= posL p.segs (i + 1) -> Q s (turnD d (vertL p.start p.segs i) (sgA p.segs i).to mv)
theorem legN_chain {p : Pth} {x : Ax3} {mv lo hi f : Int} {d : Pt} {Q : Int -> Pt -> Prop} (hv : mv = 1 \/ mv = -1) (hx : Ax3OK x) (hp : SegOK p.segs) (hlo : 0 <= lo /\ lo <= hi /\ hi <= Qay p.segs) (hf : (mv = 1 /\ f = lo) \/ (mv = -1 /\ f = hi)) (hQ : SegQ p mv Q) :
  ∀ j, j <= p.segs.length -> TC x mv Q (legN p x mv lo hi (⟨[], 0, f, d⟩, d) j).1 (wayS p.segs mv lo hi j) (legN p x mv lo hi (⟨[], 0, f, d⟩, d) j).2
 | 0, _ => by
  have hs : wayS p.segs mv lo hi 0 = f := by
   unfold wayS
   have := posL_len p.segs
   rcases hf with ⟨rfl, rfl⟩ | ⟨rfl, rfl⟩
   ·rw [if_neg (by omega), posL_zero]; omega
   ·rw [if_pos (by omega), Nat.sub_zero, this]; omega
  rw [hs]
  exact ⟨trivial, rfl, rfl, rfl⟩
 | j + 1, hj => by
  have ih := legN_chain hv hx hp hlo hf hQ (f := f) (d := d) j (by omega)
  have hil := idxT_lt mv (show j < p.segs.length by omega)
  have hg := hp.seg _ (sgA_mem hil)
  have hsucc := posL_succ hil
  have hq := hQ _ hil
  rw [legN]
  unfold segT
  have hcase : (mv = 1 /\ idxT p.segs.length mv j = j) \/ (mv = -1 /\ idxT p.segs.length mv j = p.segs.length - 1 - j) := by
   unfold idxT
   rcases hv with rfl | rfl
   ·exact .inl ⟨rfl, if_neg (by omega)⟩
   ·exact .inr ⟨rfl, if_pos (by omega)⟩
  have hway : wayS p.segs mv lo hi j = (if mv < 0 then min (max (posL p.segs (idxT p.segs.length mv j + 1)) lo) hi else min (max (posL p.segs (idxT p.segs.length mv j)) lo) hi) /\
    wayS p.segs mv lo hi (j + 1) = (if mv < 0 then min (max (posL p.segs (idxT p.segs.length mv j)) lo) hi else min (max (posL p.segs (idxT p.segs.length mv j + 1)) lo) hi) := by
   unfold wayS
   rcases hcase with ⟨rfl, e⟩ | ⟨rfl, e⟩
   ·rw [e, if_neg (by omega), if_neg (by omega), if_neg (by omega), if_neg (by omega)]; exact ⟨rfl, rfl⟩
   ·rw [e, if_pos (by omega), if_pos (by omega), if_pos (by omega), if_pos (by omega), show p.segs.length - 1 - j + 1 = p.segs.length - j by omega, show p.segs.length - (j + 1) = p.segs.length - 1 - j by omega]; exact ⟨rfl, rfl⟩
  rw [hway.1] at ih
  rw [hway.2]
  generalize idxT p.segs.length mv j = i at *
  generalize legN p x mv lo hi (⟨[], 0, f, d⟩, d) j = w at *
  obtain ⟨t, dn⟩ := w
  simp only at ih ⊢
  by_cases c : max (posL p.segs i) lo < min (posL p.segs (i + 1)) hi
  ·rw [if_pos c]
   rcases hcase with ⟨rfl, -⟩ | ⟨rfl, -⟩
   ·rw [if_neg (by omega)] at ih ⊢
    rw [if_neg (by omega)]
    have e1 : min (max (posL p.segs i) lo) hi = max (posL p.segs i) lo := by omega
    rw [e1] at ih
    have := visit_chain (a := vertL p.start p.segs i) (b := (sgA p.segs i).to) (units := min (posL p.segs (i + 1)) hi - max (posL p.segs i) lo) (by omega) (fun w d => (slack_bd hx w d).1) ih (by omega) (fun k h0 h1 => hq dn _ (by omega) (by omega) (by omega) (by omega))
    have e2 : max (posL p.segs i) lo + 1 * (min (posL p.segs (i + 1)) hi - max (posL p.segs i) lo) = min (max (posL p.segs (i + 1)) lo) hi := by omega
    rw [e2] at this; exact this
   ·rw [if_pos (by omega)] at ih ⊢
    rw [if_pos (by omega)]
    have e1 : min (max (posL p.segs (i + 1)) lo) hi = min (posL p.segs (i + 1)) hi := by omega
    rw [e1] at ih
    have := visit_chain (a := vertL p.start p.segs i) (b := (sgA p.segs i).to) (units := min (posL p.segs (i + 1)) hi - max (posL p.segs i) lo) (by omega) (fun w d => (slack_bd hx w d).1) ih (by omega) (fun k h0 h1 => hq dn _ (by omega) (by omega) (by omega) (by omega))
    have e2 : min (posL p.segs (i + 1)) hi + -1 * (min (posL p.segs (i + 1)) hi - max (posL p.segs i) lo) = min (max (posL p.segs i) lo) hi := by omega
    rw [e2] at this; exact this
  ·rw [if_neg c]
   have e : (if mv < 0 then min (max (posL p.segs (i + 1)) lo) hi else min (max (posL p.segs i) lo) hi) = (if mv < 0 then min (max (posL p.segs i) lo) hi else min (max (posL p.segs (i + 1)) lo) hi) := by
    split <;> omega
   rw [<- e]; exact ih
end Go.Bm
/- tracks: the functions that add a piece, turn the directions and find the greatest backlash -/
set_option maxRecDepth 100000
namespace Go.Bm
open Classical

theorem last_row {l : List Pce} (h : l ≠ []) : nth [] (l.map pceR) (l.length - 1) = pceR (Qec l) := by
 have hp : 0 < l.length := by cases l with
  | nil => exact absurd rfl h
  | cons _ _ => simp
 unfold Qec
 have hlt : l.length - 1 < l.length := by omega
 rw [nth_map _ _ _ _ hlt, List.getD_eq_getElem?_getD, List.getElem?_eq_getElem hlt, Option.getD_some]
theorem pt_iff {a b : Pt} : a = b ↔ a.x = b.x /\ a.y = b.y /\ a.z = b.z := Qi5
theorem a_addT {t : Trk} {c : Pce} {n m k : Int} (h : TB t n m) (hn : n <= 10000000) (hm : m <= 1000000000000000000) (hk : k <= 1000000000000000000) (hc : 0 <= c.units /\ c.units <= k):
  mf_track_Leg_1 [.view kPce (t.pieces.map pceR), I c.at_, I c.units, I c.s, I c.move, I c.was.x, I c.was.y, I c.was.z, I c.dirs.x, I c.dirs.y, I c.dirs.z, I t.length, I t.start, I t.dirs.x, I t.dirs.y, I t.dirs.z] = some (trkR (addT t c)) := by
 obtain ⟨h1, h2, h3⟩ := h
 have hw : IntKind.i64.wrap (t.length + c.units) = t.length + c.units := Qab (by omega)
 have hble : ((t.pieces.map pceR ++ [[I t.length, I c.units, I c.s, I c.move, I c.was.x, I c.was.y, I c.was.z, I c.dirs.x, I c.dirs.y, I c.dirs.z]]).length * 80).ble 140737488355328 = true := by
  rw [Nat.ble_eq, List.length_append, List.length_map]; simp only [List.length_cons, List.length_nil]; omega
 have hble' : (t.pieces.map pceR ++ [[I t.length, I c.units, I c.s, I c.move, I c.was.x, I c.was.y, I c.was.z, I c.dirs.x, I c.dirs.y, I c.dirs.z]]).length * 80 <= 140737488355328 := Nat.le_of_ble_eq_true hble
 have happ : some [AC.view kPce (t.pieces.map pceR ++ [[I t.length, I c.units, I c.s, I c.move, I c.was.x, I c.was.y, I c.was.z, I c.dirs.x, I c.dirs.y, I c.dirs.z]]), I (t.length + c.units), I t.start, I t.dirs.x, I t.dirs.y, I t.dirs.z] =
   some (trkR { t with pieces := t.pieces ++ [{ c with at_ := t.length }], length := t.length + c.units }) := by
  simp only [trkR, List.map_append, List.map_cons, List.map_nil]
 by_cases c1 : t.pieces = []
 ·have hg : ¬ (t.pieces ≠ [] /\ c.move ≠ 0 /\ (Qec t.pieces).move = c.move /\ (Qec t.pieces).dirs = c.dirs) := fun g => g.1 c1
  unfold addT
  rw [if_neg hg, <- happ]
  rw [mf_track_Leg_1_eq, List.length_map, Qbs (by rw [c1]; simp), Qj4 hble, hw]
 ·have hp : 0 < t.pieces.length := by
   cases hh : t.pieces with
   | nil => exact absurd hh c1
   | cons _ _ => simp
  have e1 : IntKind.i64.wrap ((t.pieces.length : Int) - 1) = ((t.pieces.length - 1 : Nat) : Int) := by rw [Qab (by omega)]; omega
  have hin : (0 : Int) <= ((t.pieces.length - 1 : Nat) : Int) /\ ((t.pieces.length - 1 : Nat) : Int) < (t.pieces.length : Int) := by omega
  have hl := h3 _ (lastP_mem c1)
  have hw2 : IntKind.i64.wrap ((Qec t.pieces).units + c.units) = (Qec t.pieces).units + c.units := Qab (by omega)
  have hset : some [AC.view kPce ((t.pieces.map pceR).set (t.pieces.length - 1) [I (Qec t.pieces).at_, I ((Qec t.pieces).units + c.units), I (Qec t.pieces).s, I (Qec t.pieces).move, I (Qec t.pieces).was.x, I (Qec t.pieces).was.y, I (Qec t.pieces).was.z, I (Qec t.pieces).dirs.x, I (Qec t.pieces).dirs.y, I (Qec t.pieces).dirs.z]), I (t.length + c.units), I t.start, I t.dirs.x, I t.dirs.y, I t.dirs.z] =
   some (trkR { t with pieces := t.pieces.set (t.pieces.length - 1) { Qec t.pieces with units := (Qec t.pieces).units + c.units }, length := t.length + c.units }) := by
   simp only [trkR, List.map_set]
  have hr := last_row c1
  have main : ∀ R, R = (if c.move ≠ 0 then if (Qec t.pieces).move = c.move then if (Qec t.pieces).dirs.x = c.dirs.x /\ (Qec t.pieces).dirs.y = c.dirs.y /\ (Qec t.pieces).dirs.z = c.dirs.z then
    some (trkR { t with pieces := t.pieces.set (t.pieces.length - 1) { Qec t.pieces with units := (Qec t.pieces).units + c.units }, length := t.length + c.units })
    else some (trkR { t with pieces := t.pieces ++ [{ c with at_ := t.length }], length := t.length + c.units }) else some (trkR { t with pieces := t.pieces ++ [{ c with at_ := t.length }], length := t.length + c.units }) else some (trkR { t with pieces := t.pieces ++ [{ c with at_ := t.length }], length := t.length + c.units })) -> R = some (trkR (addT t c)) := by
   intro R hR
   rw [hR]
   unfold addT
   by_cases g1 : c.move ≠ 0
   ·by_cases g2 : (Qec t.pieces).move = c.move
    ·by_cases g3 : (Qec t.pieces).dirs.x = c.dirs.x /\ (Qec t.pieces).dirs.y = c.dirs.y /\ (Qec t.pieces).dirs.z = c.dirs.z
     ·rw [if_pos g1, if_pos g2, if_pos g3, if_pos ⟨c1, g1, g2, pt_iff.2 g3⟩]
     ·rw [if_pos g1, if_pos g2, if_neg g3, if_neg fun g => g3 (pt_iff.1 g.2.2.2)]
    ·rw [if_pos g1, if_neg g2, if_neg fun g => g2 g.2.2.1]
   ·rw [if_neg g1, if_neg fun g => g1 g.2.1]
  refine main _ ?_
  rw [<- happ, <- hset]
  rw [mf_track_Leg_1_eq, List.length_map, e1, Int.toNat_natCast, hr]
  simp only [go_sem, hw, hw2, if_pos hin, if_pos hble']
  rw [if_pos (by omega)]
  simp only [and_true]
theorem s_takeUp (x : Ax3) (w d : Pt) : Qh9 (ax3R x ++ [I w.x, I w.y, I w.z, I d.x, I d.y, I d.z]) = some [I (Qf5 x w d)] := by
 have he := mf_track_takeUp_eq x.a.step x.a.speed x.a.accel x.a.jerk x.a.low x.a.high x.a.back x.a.origin x.a.spacing (x.a.pitch.map intR) x.b.step x.b.speed x.b.accel x.b.jerk x.b.low x.b.high x.b.back x.b.origin x.b.spacing (x.b.pitch.map intR) x.c.step x.c.speed x.c.accel x.c.jerk x.c.low x.c.high x.c.back x.c.origin x.c.spacing (x.c.pitch.map intR) w.x w.y w.z d.x d.y d.z
 unfold Qh9
 refine Eq.trans he ?_
 unfold Qf5 slk
 simp only [go_sem, mx_eq]
 (repeat' split) <;> first | rfl | (exfalso; omega)
theorem s_turned3 (n a b : Pt) {mv : Int} (hm : mv = 1 \/ mv = -1) : Qh5 [I n.x, I n.y, I n.z, I a.x, I a.y, I a.z, I b.x, I b.y, I b.z, I mv] = some (ptR (turnD n a b mv)) := by
 unfold Qh5
 rw [mf_track_turned_eq]
 have e : IntKind.i64.wrap (0 - mv) = -mv := by rw [Qab (by omega)]; omega
 unfold turnD turn1
 simp only [go_sem, e]
 (repeat' split) <;> first | rfl | (exfalso; omega)
theorem s_clamp {n hi : Int} : Qdr [I n, I hi] = some [I (Qct n hi)] := by
 unfold Qdr
 rw [mf_track_clamp_eq]
 simp only [mn_eq, mx_eq]
 rfl
theorem a_visit {MU MT MA : List AC -> Option (List AC)} {x : Ax3} {mv : Int} {a b : Pt} {s units : Int} {t : Trk} {now : Pt} {n m k : Int} (hx : Ax3OK x) (h : TB t n m) (hn : n <= 9000000) (hm : m <= 900000000000000000) (hk : k <= 900000000000000000) (hu : 0 <= units /\ units <= k)
  (hT : MT [I now.x, I now.y, I now.z, I a.x, I a.y, I a.z, I b.x, I b.y, I b.z, I mv] = some (ptR (turnD now a b mv))) (hU : ∀ w d : Pt, MU (ax3R x ++ [I w.x, I w.y, I w.z, I d.x, I d.y, I d.z]) = some [I (Qf5 x w d)])
  (hA : ∀ {t : Trk} {c : Pce} {n m k : Int}, TB t n m -> n <= 10000000 -> m <= 1000000000000000000 -> k <= 1000000000000000000 -> (0 <= c.units /\ c.units <= k) ->
   MA [.view kPce (t.pieces.map pceR), I c.at_, I c.units, I c.s, I c.move, I c.was.x, I c.was.y, I c.was.z, I c.dirs.x, I c.dirs.y, I c.dirs.z, I t.length, I t.start, I t.dirs.x, I t.dirs.y, I t.dirs.z] = some (trkR (addT t c))) :
  mf_track_Leg_2 MU MT MA (.view kPce (t.pieces.map pceR) :: I a.x :: I a.y :: I a.z :: I b.x :: I b.y :: I b.z :: I s :: I units :: I now.x :: I now.y :: I now.z :: I mv :: (ax3R x ++ [I t.length, I t.start, I t.dirs.x, I t.dirs.y, I t.dirs.z])) =
   some (.view kPce ((Qkt x mv a b s units (t, now)).1.pieces.map pceR) :: I (Qkt x mv a b s units (t, now)).2.x :: I (Qkt x mv a b s units (t, now)).2.y :: I (Qkt x mv a b s units (t, now)).2.z :: I mv :: (ax3R x ++
    [I (Qkt x mv a b s units (t, now)).1.length, I (Qkt x mv a b s units (t, now)).1.start, I (Qkt x mv a b s units (t, now)).1.dirs.x, I (Qkt x mv a b s units (t, now)).1.dirs.y, I (Qkt x mv a b s units (t, now)).1.dirs.z])) := by
 have he := mf_track_Leg_2_eq MU MT MA (t.pieces.map pceR) a.x a.y a.z b.x b.y b.z s units now.x now.y now.z mv x.a.step x.a.speed x.a.accel x.a.jerk x.a.low x.a.high x.a.back x.a.origin x.a.spacing (x.a.pitch.map intR) x.b.step x.b.speed x.b.accel x.b.jerk x.b.low x.b.high x.b.back x.b.origin x.b.spacing (x.b.pitch.map intR) x.c.step x.c.speed x.c.accel x.c.jerk x.c.low x.c.high x.c.back x.c.origin x.c.spacing (x.c.pitch.map intR) t.length t.start t.dirs.x t.dirs.y t.dirs.z
 refine Eq.trans he ?_
 have hs := slack_bd hx now (turnD now a b mv)
 have hU' := hU now (turnD now a b mv)
 simp only [ax3R, List.cons_append, List.nil_append] at hU' ⊢
 unfold Qkt
 simp only
 generalize turnD now a b mv = nx at *
 simp only [hT, go_sem, hU']
 by_cases c : Qf5 x now nx > 0
 ·have h1 := hA (c := ⟨0, Qf5 x now nx, s, 0, now, nx⟩) h (by omega) (by omega) (k := 1000) (by omega) (by simp only; omega)
  have hb := addT_bd (k := 1000) h (c := ⟨0, Qf5 x now nx, s, 0, now, nx⟩) (by simp only; omega)
  have h2 := hA (c := ⟨0, units, s, mv, nx, nx⟩) hb (by omega) (by omega) (k := k) (by omega) hu
  simp only at h1 h2
  rw [if_pos c, if_pos c]
  simp only [h1, trkR, go_sem, h2]
 ·have h2 := hA (c := ⟨0, units, s, mv, nx, nx⟩) h (by omega) (by omega) (k := k) (by omega) hu
  simp only at h2
  rw [if_neg c, if_neg c]
  simp only [h2, trkR, go_sem]
theorem s_visit {x : Ax3} {mv : Int} {a b : Pt} {s units : Int} {t : Trk} {now : Pt} {n m k : Int} (hv : mv = 1 \/ mv = -1) (hx : Ax3OK x) (h : TB t n m) (hn : n <= 9000000) (hm : m <= 900000000000000000) (hk : k <= 900000000000000000) (hu : 0 <= units /\ units <= k) :
  Qc3 (.view kPce (t.pieces.map pceR) :: I a.x :: I a.y :: I a.z :: I b.x :: I b.y :: I b.z :: I s :: I units :: I now.x :: I now.y :: I now.z :: I mv :: (ax3R x ++ [I t.length, I t.start, I t.dirs.x, I t.dirs.y, I t.dirs.z])) =
   some (.view kPce ((Qkt x mv a b s units (t, now)).1.pieces.map pceR) :: I (Qkt x mv a b s units (t, now)).2.x :: I (Qkt x mv a b s units (t, now)).2.y :: I (Qkt x mv a b s units (t, now)).2.z :: I mv :: (ax3R x ++
    [I (Qkt x mv a b s units (t, now)).1.length, I (Qkt x mv a b s units (t, now)).1.start, I (Qkt x mv a b s units (t, now)).1.dirs.x, I (Qkt x mv a b s units (t, now)).1.dirs.y, I (Qkt x mv a b s units (t, now)).1.dirs.z])) :=
 a_visit hx h hn hm hk hu (s_turned3 now a b hv) (s_takeUp x) fun h1 h2 h3 h4 h5 => a_addT h1 h2 h3 h4 h5
end Go.Bm
/- tracks: the loops over the segments, by the reference and by the program -/
set_option maxRecDepth 100000
namespace Go.Bm
open Classical

end Go.Bm
/- tracks: the way between two positions, by the reference and by the program -/
set_option maxRecDepth 100000
namespace Go.Bm
open Classical

def begL (l : List Sgm) (j : Nat) : List (List AC) := (List.range j).map fun i => [I (posL l i)]
theorem begL_len (l : List Sgm) (j : Nat) : (begL l j).length = j := by simp [begL]
theorem begL_succ (l : List Sgm) (j : Nat) : begL l (j + 1) = begL l j ++ [[I (posL l j)]] := by unfold begL; rw [List.range_succ, List.map_append]; rfl
theorem begL_get {l : List Sgm} {n i : Nat} (h : i < n) : nth [] (begL l n) i = [I (posL l i)] := by
 have hlt : i < (begL l n).length := by rw [begL_len]; exact h
 rw [nth_get [] _ i hlt]
 simp [begL]
abbrev ethS (p : Pth) (x : Ax3) (lo hi mv : Int) (t : Trk) (now : Pt) (at_ : Int) (bl : List (List AC)) (j : Nat) : List AC :=
 [.view Qac bl, .view kPce (t.pieces.map pceR), I lo, I hi, I mv, I at_, .view kSgm (p.segs.map sgmR), I p.segs.length, I j, I p.start.x, I p.start.y, I p.start.z, .view kSgm (p.segs.map sgmR), .view kMrk (p.marks.map mrkR), I now.x, I now.y, I now.z, I mv, I x.a.step, I x.a.speed, I x.a.accel, I x.a.jerk, I x.a.low, I x.a.high, I x.a.back, I x.a.origin, I x.a.spacing, .view Qac (x.a.pitch.map intR), I x.b.step, I x.b.speed, I x.b.accel, I x.b.jerk, I x.b.low, I x.b.high, I x.b.back, I x.b.origin, I x.b.spacing, .view Qac (x.b.pitch.map intR), I x.c.step, I x.c.speed, I x.c.accel, I x.c.jerk, I x.c.low, I x.c.high, I x.c.back, I x.c.origin, I x.c.spacing, .view Qac (x.c.pitch.map intR), I t.length, I t.start, I t.dirs.x, I t.dirs.y, I t.dirs.z]
theorem l_each4 {M : List AC -> Option (List AC)} {p : Pth} {x : Ax3} {lo hi mv : Int} {t : Trk} {now : Pt} (h : SegOK p.segs) : ∀ (k j : Nat), j + k = p.segs.length ->
  Qby (Qmi M) (ethS p x lo hi mv t now (posL p.segs j) (begL p.segs j) j) = some (1, [.view Qac (begL p.segs p.segs.length), .view kPce (t.pieces.map pceR), I lo, I hi, I mv, I p.start.x, I p.start.y, I p.start.z, .view kSgm (p.segs.map sgmR), .view kMrk (p.marks.map mrkR), I now.x, I now.y, I now.z, I mv, I x.a.step, I x.a.speed, I x.a.accel, I x.a.jerk, I x.a.low, I x.a.high, I x.a.back, I x.a.origin, I x.a.spacing, .view Qac (x.a.pitch.map intR), I x.b.step, I x.b.speed, I x.b.accel, I x.b.jerk, I x.b.low, I x.b.high, I x.b.back, I x.b.origin, I x.b.spacing, .view Qac (x.b.pitch.map intR), I x.c.step, I x.c.speed, I x.c.accel, I x.c.jerk, I x.c.low, I x.c.high, I x.c.back, I x.c.origin, I x.c.spacing, .view Qac (x.c.pitch.map intR), I t.length, I t.start, I t.dirs.x, I t.dirs.y, I t.dirs.z])
 | 0, j, hj => by
  have hj' : j = p.segs.length := by omega
  refine Qb1 (o := (1, _)) ?_ (by simp)
  rw [st_track_each_4_eq, Qbs (by omega), hj']
 | k + 1, j, hj => by
  have hlt : j < p.segs.length := by omega
  have hcnt := h.count
  have hpos := posL_bd h j (by omega)
  have hg := h.seg _ (sgA_mem hlt)
  have hst : Qmi M (ethS p x lo hi mv t now (posL p.segs j) (begL p.segs j) j) = some (0, ethS p x lo hi mv t now (posL p.segs (j + 1)) (begL p.segs (j + 1)) (j + 1)) := by
   have hle : (begL p.segs j ++ [[I (posL p.segs j)]]).length * 8 <= 140737488355328 := by rw [List.length_append, begL_len]; simp only [List.length_cons, List.length_nil]; omega
   have e1 : IntKind.i64.wrap ((j : Int) + 1) = ((j + 1 : Nat) : Int) := by rw [Qab (by omega)]; omega
   rw [st_track_each_4_eq]
   simp only [go_sem, List.length_map, Int.toNat_natCast, row_sgA hlt, if_pos hle, e1, begL_succ]
   rw [if_pos (by omega), if_pos (by omega), Qab (x := posL p.segs j + (sgA p.segs j).len) (by omega), posL_succ hlt]
  rw [Qbr hst]
  exact l_each4 h k (j + 1) (by omega)
abbrev visS (p : Pth) (x : Ax3) (lo hi mv : Int) (t : Trk) (now : Pt) (j : Nat) : List AC :=
 [.view Qac (begL p.segs p.segs.length), .view kPce (t.pieces.map pceR), I lo, I hi, I mv, I p.segs.length, I j, I p.start.x, I p.start.y, I p.start.z, .view kSgm (p.segs.map sgmR), .view kMrk (p.marks.map mrkR), I now.x, I now.y, I now.z, I mv, I x.a.step, I x.a.speed, I x.a.accel, I x.a.jerk, I x.a.low, I x.a.high, I x.a.back, I x.a.origin, I x.a.spacing, .view Qac (x.a.pitch.map intR), I x.b.step, I x.b.speed, I x.b.accel, I x.b.jerk, I x.b.low, I x.b.high, I x.b.back, I x.b.origin, I x.b.spacing, .view Qac (x.b.pitch.map intR), I x.c.step, I x.c.speed, I x.c.accel, I x.c.jerk, I x.c.low, I x.c.high, I x.c.back, I x.c.origin, I x.c.spacing, .view Qac (x.c.pitch.map intR), I t.length, I t.start, I t.dirs.x, I t.dirs.y, I t.dirs.z]
abbrev visR (x : Ax3) (mv : Int) (t : Trk) (now : Pt) : List AC := [.view kPce (t.pieces.map pceR), I now.x, I now.y, I now.z, I mv, I x.a.step, I x.a.speed, I x.a.accel, I x.a.jerk, I x.a.low, I x.a.high, I x.a.back, I x.a.origin, I x.a.spacing, .view Qac (x.a.pitch.map intR), I x.b.step, I x.b.speed, I x.b.accel, I x.b.jerk, I x.b.low, I x.b.high, I x.b.back, I x.b.origin, I x.b.spacing, .view Qac (x.b.pitch.map intR), I x.c.step, I x.c.speed, I x.c.accel, I x.c.jerk, I x.c.low, I x.c.high, I x.c.back, I x.c.origin, I x.c.spacing, .view Qac (x.c.pitch.map intR), I t.length, I t.start, I t.dirs.x, I t.dirs.y, I t.dirs.z]
theorem a_each10 {MV : List AC -> Option (List AC)} {N : List AC -> Option (Nat × List AC)} {p : Pth} {x : Ax3} {lo hi mv : Int} {t : Trk} {now : Pt} {n m : Int} {j : Nat} (hv : mv = 1 \/ mv = -1) (hp : GoodPath p) (hx : Ax3OK x) (h : TB t n m) (hn : n <= 9000000) (hm : m <= 900000000000000000)
  (hj : j < p.segs.length)
  (hV : ∀ {a b : Pt} {s units : Int}, (0 <= units /\ units <= 268435456) -> MV [.view kPce (t.pieces.map pceR), I a.x, I a.y, I a.z, I b.x, I b.y, I b.z, I s, I units, I now.x, I now.y, I now.z, I mv, I x.a.step, I x.a.speed, I x.a.accel, I x.a.jerk, I x.a.low, I x.a.high, I x.a.back, I x.a.origin, I x.a.spacing, .view Qac (x.a.pitch.map intR), I x.b.step, I x.b.speed, I x.b.accel, I x.b.jerk, I x.b.low, I x.b.high, I x.b.back, I x.b.origin, I x.b.spacing, .view Qac (x.b.pitch.map intR), I x.c.step, I x.c.speed, I x.c.accel, I x.c.jerk, I x.c.low, I x.c.high, I x.c.back, I x.c.origin, I x.c.spacing, .view Qac (x.c.pitch.map intR), I t.length, I t.start, I t.dirs.x, I t.dirs.y, I t.dirs.z] = some (visR x mv (Qkt x mv a b s units (t, now)).1 (Qkt x mv a b s units (t, now)).2)) :
  Qk5 MV N (visS p x lo hi mv t now j) = some (0, visS p x lo hi mv (segT p x mv lo hi (idxT p.segs.length mv j) (t, now)).1 (segT p x mv lo hi (idxT p.segs.length mv j) (t, now)).2 (j + 1)) := by
 have hok := hp.ok
 have hcnt := hok.count
 have hil0 := idxT_lt mv hj
 have hcase : (mv = 1 /\ idxT p.segs.length mv j = j) \/ (mv = -1 /\ idxT p.segs.length mv j = p.segs.length - 1 - j) := by
  unfold idxT
  rcases hv with rfl | rfl
  ·exact .inl ⟨rfl, if_neg (by omega)⟩
  ·exact .inr ⟨rfl, if_pos (by omega)⟩
 obtain ⟨i, hix⟩ : ∃ i, idxT p.segs.length mv j = i := ⟨_, rfl⟩
 rw [hix] at hil0 hcase ⊢
 have hil : i < p.segs.length := hil0
 have hg := hok.seg _ (sgA_mem hil)
 have hr := row_sgA hil
 have hb := begL_get (l := p.segs) hil
 have hpos := posL_bd hok i (by omega)
 have hsucc := posL_succ hil
 have hin : (0 : Int) <= (i : Nat) /\ (i : Int) < (p.segs.length : Int) := by omega
 have hin0 : (j : Int) < (p.segs.length : Int) := by omega
 have e1 : IntKind.i64.wrap ((j : Int) + 1) = ((j + 1 : Nat) : Int) := by rw [Qab (by omega)]; omega
 have hI : IntKind.i64.wrap (IntKind.i64.wrap ((p.segs.length : Int) - 1) - (j : Int)) = ((p.segs.length - 1 - j : Nat) : Int) := by rw [Qab (x := (p.segs.length : Int) - 1) (by omega), Qab (by omega)]; omega
 have hw : IntKind.i64.wrap (posL p.segs i + (sgA p.segs i).len) = posL p.segs (i + 1) := by rw [hsucc, Qab (by omega)]
 have hwd : max (posL p.segs i) lo < min (posL p.segs (i + 1)) hi -> IntKind.i64.wrap (min (posL p.segs (i + 1)) hi - max (posL p.segs i) lo) = min (posL p.segs (i + 1)) hi - max (posL p.segs i) lo := fun _ => Qab (by omega)
 have hd : max (posL p.segs i) lo < min (posL p.segs (i + 1)) hi -> 0 <= min (posL p.segs (i + 1)) hi - max (posL p.segs i) lo /\ min (posL p.segs (i + 1)) hi - max (posL p.segs i) lo <= 268435456 := fun _ => by omega
 have hI1 : i ≠ 0 -> IntKind.i64.wrap ((i : Int) - 1) = ((i - 1 : Nat) : Int) /\ ((0 : Int) <= ((i - 1 : Nat) : Int) /\ ((i - 1 : Nat) : Int) < (p.segs.length : Int)) /\ nth [] (p.segs.map sgmR) (i - 1) = sgmR (sgA p.segs (i - 1)) /\ vertL p.start p.segs i = (sgA p.segs (i - 1)).to := by
  intro h0
  refine ⟨by rw [Qab (by omega)]; omega, by omega, row_sgA (by omega), ?_⟩
  obtain ⟨q, rfl⟩ : ∃ q, i = q + 1 := ⟨i - 1, by omega⟩
  exact vert_succ (by omega)
 unfold segT
 rw [st_track_each_10_eq]
 rcases hcase with ⟨rfl, rfl⟩ | ⟨rfl, ei⟩
 ·simp only [go_sem, List.length_map, begL_len, Int.toNat_natCast, hr, hb, if_pos hin, if_pos hin0, mx_eq, mn_eq, hw, e1]
  rw [if_neg (by omega)]
  by_cases c : max (posL p.segs i) lo < min (posL p.segs (i + 1)) hi
  ·rw [if_neg (by omega), if_pos c, hwd c]
   by_cases c0 : i = 0
   ·rw [if_neg (by omega)]
    have hV' := hV (a := p.start) (b := (sgA p.segs i).to) (s := max (posL p.segs i) lo) (hd c)
    subst c0
    rw [vert_zero]
    rw [if_neg (by omega), hV']
    simp only [visR, go_sem]
    rfl
   ·obtain ⟨k1, k2, k3, k4⟩ := hI1 c0
    rw [if_pos (by omega), k1]
    have hV' := hV (a := (sgA p.segs (i - 1)).to) (b := (sgA p.segs i).to) (s := max (posL p.segs i) lo) (hd c)
    rw [k4]
    simp only [Int.toNat_natCast, k3, go_sem, if_pos k2]
    rw [if_neg (by omega), hV']
    simp only [visR, go_sem]
    rfl
  ·rw [if_pos (by omega), if_neg c]
 ·rw [<- ei] at hI
  simp only [go_sem, List.length_map, begL_len, hI, Int.toNat_natCast, hr, hb, if_pos hin, if_pos hin0, mx_eq, mn_eq, hw, e1]
  rw [if_pos (by omega)]
  by_cases c : max (posL p.segs i) lo < min (posL p.segs (i + 1)) hi
  ·rw [if_neg (by omega), if_pos c, hwd c]
   by_cases c0 : i = 0
   ·rw [if_neg (by omega)]
    have hV' := hV (a := p.start) (b := (sgA p.segs i).to) (s := min (posL p.segs (i + 1)) hi) (hd c)
    subst c0
    rw [vert_zero]
    rw [if_pos (by omega), hV']
    simp only [visR, go_sem]
    rfl
   ·obtain ⟨k1, k2, k3, k4⟩ := hI1 c0
    rw [if_pos (by omega), k1]
    have hV' := hV (a := (sgA p.segs (i - 1)).to) (b := (sgA p.segs i).to) (s := min (posL p.segs (i + 1)) hi) (hd c)
    rw [k4]
    simp only [Int.toNat_natCast, k3, go_sem, if_pos k2]
    rw [if_pos (by omega), hV']
    simp only [visR, go_sem]
    rfl
  ·rw [if_pos (by omega), if_neg c]
end Go.Bm
/- tracks: the piece of a track position, the path position and the take-ups, by the reference and by the program -/
set_option maxRecDepth 100000
namespace Go.Bm
open Classical

def pcA (l : List Pce) (i : Nat) : Pce := l.getD i pc0
def eI (l : List Pce) (i : Nat) : Int := (pcA l i).at_ + (pcA l i).units
def fI : List Pce -> Int -> Nat
 | [], _ => 0
 | c :: l, u => if u <= c.at_ + c.units then 0 else fI l u + 1
theorem Qla (c : Pce) (l : List Pce) (i : Nat) : pcA (c :: l) (i + 1) = pcA l i := by unfold pcA; simp
theorem pcA_zero (c : Pce) (l : List Pce) : pcA (c :: l) 0 = c := by unfold pcA; simp
theorem row_pcA {l : List Pce} {i : Nat} (h : i < l.length) : nth [] (l.map pceR) i = pceR (pcA l i) := by
 have e : pcA l i = l[i] := by unfold pcA; simp [h]
 rw [e]; exact nth_map _ _ _ _ h
theorem fI_lt : ∀ {l : List Pce} {u : Int} {j : Nat}, j < l.length -> u <= eI l j -> fI l u <= j
 | c :: l, u, 0, _, h => by
  unfold eI at h; rw [pcA_zero] at h
  unfold fI; rw [if_pos h]; exact Nat.le_refl _
 | c :: l, u, j + 1, hj, h => by
  unfold fI
  by_cases c0 : u <= c.at_ + c.units
  ·rw [if_pos c0]; omega
  ·rw [if_neg c0]
   have : fI l u <= j := fI_lt (by simpa using hj) (by unfold eI at h ⊢; rw [Qla] at h; exact h)
   omega
theorem fI_spec : ∀ {l : List Pce} {u : Int}, fI l u < l.length -> u <= eI l (fI l u)
 | [], _, h => by simp at h
 | c :: l, u, h => by
  unfold fI at h ⊢
  by_cases c0 : u <= c.at_ + c.units
  ·rw [if_pos c0]; unfold eI; rw [pcA_zero]; exact c0
  ·rw [if_neg c0] at h ⊢
   have := fI_spec (l := l) (u := u) (by simpa using h)
   unfold eI at this ⊢; rw [Qla]; exact this
structure TQ (t : Trk) : Prop where
 count : t.pieces.length <= 10000000
 len : 0 <= t.length /\ t.length <= 900000000000000
 pos : ∀ i, i < t.pieces.length -> 0 <= (pcA t.pieces i).at_ /\ 1 <= (pcA t.pieces i).units /\ eI t.pieces i <= t.length
 mono : ∀ i j, i <= j -> j < t.pieces.length -> eI t.pieces i <= eI t.pieces j
 last : t.pieces ≠ [] -> eI t.pieces (t.pieces.length - 1) = t.length
 start : 0 <= t.start /\ t.start <= 263886834032640
 s : ∀ i, i < t.pieces.length -> -900000000000000 <= (pcA t.pieces i).s /\ (pcA t.pieces i).s <= 2000000000000000
 move : ∀ i, i < t.pieces.length -> (pcA t.pieces i).move = 0 \/ (pcA t.pieces i).move = 1 \/ (pcA t.pieces i).move = -1
def clT (t : Trk) (u : Int) : Int := Qct u t.length
theorem clT_bd {t : Trk} (h : TQ t) (u : Int) : 0 <= clT t u /\ clT t u <= t.length := by have := h.len; unfold clT Qct; omega
def iT (t : Trk) (u : Int) : Nat := fI t.pieces (clT t u)
theorem iT_lt {t : Trk} (h : TQ t) (u : Int) (hne : t.pieces ≠ []) : iT t u < t.pieces.length := by
 have hp : 0 < t.pieces.length := by
  cases hh : t.pieces with
  | nil => exact absurd hh hne
  | cons _ _ => simp
 have := fI_lt (l := t.pieces) (u := clT t u) (j := t.pieces.length - 1) (by omega) (by rw [h.last hne]; exact (clT_bd h u).2)
 unfold iT; omega
def Qdg (t : Trk) (u : Int) : Int := if t.pieces = [] then t.start else (pcA t.pieces (iT t u)).s + (pcA t.pieces (iT t u)).move * (clT t u - (pcA t.pieces (iT t u)).at_)
theorem l_find {t : Trk} (h : TQ t) {u : Int} (hi : fI t.pieces u < t.pieces.length) : ∀ (k lo hi : Nat), hi - lo <= k -> lo <= fI t.pieces u -> fI t.pieces u <= hi -> hi < t.pieces.length ->
  Qby Qnz [I u, I lo, I hi, .view kPce (t.pieces.map pceR), I t.length, I t.start, I t.dirs.x, I t.dirs.y, I t.dirs.z] = some (1, [I (fI t.pieces u)])
 | k, lo, hi, hk, h1, h2, h3 => by
  have hcnt := h.count
  have hl := h.len
  by_cases c : lo < hi
  ·have em : IntKind.i64.wrap ((IntKind.i64.wrap ((lo : Int) + hi)).tdiv 2) = (((lo + hi) / 2 : Nat) : Int) := by
    rw [Qab (x := (lo : Int) + hi) (by omega), Int.tdiv_eq_ediv_of_nonneg (by omega), Qab (by omega)]; omega
   have hm1 : lo <= (lo + hi) / 2 /\ (lo + hi) / 2 < hi := by omega
   generalize (lo + hi) / 2 = m at *
   have hlt : m < t.pieces.length := by omega
   have hpos := h.pos m hlt
   have hin : (0 : Int) <= (m : Int) /\ (m : Int) < (t.pieces.length : Int) := by omega
   have hw : IntKind.i64.wrap ((pcA t.pieces m).at_ + (pcA t.pieces m).units) = eI t.pieces m := by unfold eI at hpos ⊢; exact Qab (by omega)
   have hst : Qnz [I u, I lo, I hi, .view kPce (t.pieces.map pceR), I t.length, I t.start, I t.dirs.x, I t.dirs.y, I t.dirs.z] = if u <= eI t.pieces m then some (0, [I u, I lo, I m, .view kPce (t.pieces.map pceR), I t.length, I t.start, I t.dirs.x, I t.dirs.y, I t.dirs.z]) else some (0, [I u, I (m + 1 : Nat), I hi, .view kPce (t.pieces.map pceR), I t.length, I t.start, I t.dirs.x, I t.dirs.y, I t.dirs.z]) := by
    rw [Qnv, em]
    simp only [go_sem, List.length_map, Int.toNat_natCast, row_pcA hlt, if_pos hin, hw, Qab (x := (m : Int) + 1) (by omega)]
    rw [if_pos (by omega)]
    rfl
   by_cases c2 : u <= eI t.pieces m
   ·rw [if_pos c2] at hst
    rw [Qbr hst]
    cases k with
    | zero => omega
    | succ k => exact l_find h (by omega) k lo m (by omega) h1 (fI_lt hlt c2) hlt
   ·rw [if_neg c2] at hst
    rw [Qbr hst]
    have hgt : m < fI t.pieces u := by
     by_cases c3 : fI t.pieces u <= m
     ·exact absurd (Int.le_trans (fI_spec (by omega)) (h.mono _ _ c3 hlt)) c2
     ·omega
    cases k with
    | zero => omega
    | succ k => exact l_find h (by omega) k (m + 1) hi (by omega) (by omega) h2 h3
  ·refine Qb1 (o := (1, _)) ?_ (by simp)
   rw [Qnv, Qbs (by omega), show fI t.pieces u = hi by omega]
theorem s_find {t : Trk} (h : TQ t) (u : Int) : Qgb (trkR t ++ [I (clT t u)]) = some [I (if t.pieces = [] then -1 else (iT t u : Int))] := by
 have he := mf_track_find_eq Qgh (t.pieces.map pceR) t.length t.start t.dirs.x t.dirs.y t.dirs.z (clT t u)
 unfold Qgb
 refine Eq.trans he ?_
 rw [List.length_map]
 have hcnt := h.count
 by_cases c : t.pieces = []
 ·have hl : Qgh [I (clT t u), I 0, I (-1), .view kPce (t.pieces.map pceR), I t.length, I t.start, I t.dirs.x, I t.dirs.y, I t.dirs.z] = some (1, [I (-1)]) := by
   refine Qb1 (o := (1, _)) ?_ (by simp)
   rw [Qnv, Qbs (by omega)]
  have e1 : IntKind.i64.wrap ((t.pieces.length : Int) - 1) = -1 := by rw [c]; rfl
  rw [if_pos c, e1]
  generalize Qgh = N at *
  simp only [hl, go_sem]
 ·have hp : 0 < t.pieces.length := by
   cases hh : t.pieces with
   | nil => exact absurd hh c
   | cons _ _ => simp
  have hi := iT_lt h u c
  have hl := l_find h (u := clT t u) hi t.pieces.length 0 (t.pieces.length - 1) (by omega) (by omega) (by unfold iT at hi; omega) (by omega)
  have hl' : Qgh [I (clT t u), I 0, I (t.pieces.length - 1 : Nat), .view kPce (t.pieces.map pceR), I t.length, I t.start, I t.dirs.x, I t.dirs.y, I t.dirs.z] = some (1, [I (iT t u : Int)]) := hl
  have e1 : IntKind.i64.wrap ((t.pieces.length : Int) - 1) = ((t.pieces.length - 1 : Nat) : Int) := by rw [Qab (by omega)]; omega
  rw [if_neg c, e1]
  generalize Qgh = N at *
  simp only [hl', go_sem]
theorem place_wrap {t : Trk} (h : TQ t) (u : Int) (hne : t.pieces ≠ []) :
  IntKind.i64.wrap ((pcA t.pieces (iT t u)).s + IntKind.i64.wrap ((pcA t.pieces (iT t u)).move * IntKind.i64.wrap (clT t u - (pcA t.pieces (iT t u)).at_))) = Qdg t u := by
 have hi := iT_lt h u hne
 have h1 := h.pos _ hi
 have h2 := h.s _ hi
 have h3 := h.move _ hi
 have h4 := clT_bd h u
 have h5 := h.len
 unfold Qdg eI at *
 rw [if_neg hne, Qab (x := clT t u - _) (by omega)]
 generalize pcA t.pieces (iT t u) = c at *
 have hb : (-900000000000000 <= c.move * (clT t u - c.at_) /\ c.move * (clT t u - c.at_) <= 900000000000000) := by
  rcases h3 with h3 | h3 | h3 <;> rw [h3] <;> omega
 rw [Qab (x := c.move * _) (by omega), Qab (by omega)]
theorem a_Place {MF MC : List AC -> Option (List AC)} {t : Trk} (h : TQ t) {u : Int} (hC : MC [I u, I t.length] = some [I (clT t u)]) (hM : MF (trkR t ++ [I (clT t u)]) = some [I (if t.pieces = [] then -1 else (iT t u : Int))]) : mf_track_Place MF MC (trkR t ++ [I u]) = some [I (Qdg t u)] := by
 have he := mf_track_Place_eq MF MC (t.pieces.map pceR) t.length t.start t.dirs.x t.dirs.y t.dirs.z u
 refine Eq.trans he ?_
 simp only [trkR, List.cons_append, List.nil_append] at hM
 by_cases c : t.pieces = []
 ·rw [if_pos c] at hM
  simp only [hC, hM, go_sem]
  rw [if_pos (by omega)]
  unfold Qdg; rw [if_pos c]
 ·have hi := iT_lt h u c
  have hcnt := h.count
  have hin : (0 : Int) <= (iT t u : Int) /\ (iT t u : Int) < (t.pieces.length : Int) := by omega
  rw [if_neg c] at hM
  simp only [hC, hM, go_sem, List.length_map, if_pos hin, Int.toNat_natCast, row_pcA hi, place_wrap h u c]
  rw [if_neg (by omega)]
theorem s_Place {t : Trk} (h : TQ t) (u : Int) : Qf6 (trkR t ++ [I u]) = some [I (Qdg t u)] := a_Place h s_clamp (s_find h u)
end Go.Bm
