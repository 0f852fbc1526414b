/- laid together -/
import Derived.Test.YtdllaekpkcanbaaGreatPrL0
import Derived.Test.YtdllaekpkcanbaaGreatPrV2
import Derived.Test.YtdllaekpkcanbaaGreatMx5
set_option linter.unusedVariables false
set_option linter.unusedSimpArgs false
/- the reference's spokes: the middle of a piece, the pieces of an arc, its chords -/
set_option maxRecDepth 100000
namespace Go.Bm

def okS (s : Spk) : Prop := s.u.natAbs <= 50000000 /\ s.w.natAbs <= 50000000 /\ (0 <= s.r /\ s.r <= 50000000) /\ s.h.natAbs <= 16777216
def hf (a b : Int) : Int := (a + b + 1) / 2
theorem s_half {a b : Int} (ha : a.natAbs <= 100000000) (hb : b.natAbs <= 100000000) : m_cncref23_half [I a, I b] = some [I (hf a b)] := by
  unfold m_cncref23_half
  rw [mf_cncref23_half_eq, Qab (x := a + b) (by omega), Qab (x := a + b + 1) (by omega)]
  have e : (2 ^ min (Int.toNat 1) IntKind.i64.bits : Int) = 2 := rfl
  rw [e, Int.fdiv_eq_ediv_of_nonneg _ (by omega)]
  rfl
def midD (a b : Spk) (dir : Int) (full : Bool) : Int × Int :=
  if full = true then (-a.u, -a.w)
  else if 0 < dt2 a.u a.w b.u b.w /\ 0 < crs a.u a.w b.u b.w * dir then (a.u + b.u, a.w + b.w)
  else if 0 < dt2 a.u a.w b.u b.w then (-(a.u + b.u), -(a.w + b.w))
  else (dir * (b.w - a.w), dir * (a.u - b.u))
noncomputable def midOf (a b : Spk) (u w : Int) : Spk := if u = 0 /\ w = 0 then ⟨0, 0, 0, 0⟩ else ⟨nearR u (hf a.r b.r) (sq2 u w), nearR w (hf a.r b.r) (sq2 u w), hf a.r b.r, hf a.h b.h⟩
noncomputable def midS (a b : Spk) (dir : Int) (full : Bool) : Spk := midOf a b (midD a b dir full).1 (midD a b dir full).2
theorem midD_bd {a b : Spk} (ha : okS a) (hb : okS b) {dir : Int} (hd : dir = 1 \/ dir = -1) (full : Bool) : (midD a b dir full).1.natAbs <= 100000000 /\ (midD a b dir full).2.natAbs <= 100000000 := by
  obtain ⟨a1, a2, -⟩ := ha
  obtain ⟨b1, b2, -⟩ := hb
  unfold midD
  split
  · exact ⟨by simp only; omega, by simp only; omega⟩
  · split
    · exact ⟨by simp only; omega, by simp only; omega⟩
    · split
      · exact ⟨by simp only; omega, by simp only; omega⟩
      · rcases hd with rfl | rfl
        · exact ⟨by simp only; omega, by simp only; omega⟩
        · exact ⟨by simp only; omega, by simp only; omega⟩
theorem sq2_sq (u w : Int) : u * u <= sq2 u w /\ w * w <= sq2 u w := by
  have h1 := sq_nn u
  have h2 := sq_nn w
  unfold sq2
  omega
theorem sq2_pos {u w : Int} (h : ¬ (u = 0 /\ w = 0)) : 0 < sq2 u w := by
  have h1 := sq_nn u
  have h2 := sq_nn w
  have z : ∀ u : Int, u * u = 0 -> u = 0 := fun u hu => by
    rcases Int.mul_eq_zero.1 hu with h | h <;> exact h
  have h3 : ¬ (u * u = 0 /\ w * w = 0) := fun h4 => h ⟨z _ h4.1, z _ h4.2⟩
  unfold sq2
  omega
theorem hf_bd {a b : Int} (ha : 0 <= a /\ a <= 50000000) (hb : 0 <= b /\ b <= 50000000) : 0 <= hf a b /\ hf a b <= 50000000 := by unfold hf; omega
theorem hf_bd2 {a b : Int} (ha : a.natAbs <= 16777216) (hb : b.natAbs <= 16777216) : (hf a b).natAbs <= 16777216 := by unfold hf; omega
theorem near_S {u w r : Int} (hu : u.natAbs <= 100000000) (hw : w.natAbs <= 100000000) (hr : 0 <= r /\ r <= 50000000) (h : ¬ (u = 0 /\ w = 0)) :
    (Qeg [I u, I r, I (sq2 u w)] = some [I (nearR u r (sq2 u w))] /\ (nearR u r (sq2 u w)).natAbs <= r.natAbs) /\ (Qeg [I w, I r, I (sq2 u w)] = some [I (nearR w r (sq2 u w))] /\ (nearR w r (sq2 u w)).natAbs <= r.natAbs) := by
  have hp := sq2_pos h
  have h1 := sq_bd hu
  have h2 := sq_bd hw
  have h3 : sq2 u w <= 20000000000000000 := by unfold sq2; omega
  obtain ⟨q1, q2⟩ := sq2_sq u w
  have key : ∀ x : Int, x.natAbs <= 100000000 -> x * x <= sq2 u w -> Qeg [I x, I r, I (sq2 u w)] = some [I (nearR x r (sq2 u w))] /\ (nearR x r (sq2 u w)).natAbs <= r.natAbs := by
    intro x hx hq
    obtain ⟨g1, -, g3⟩ := s_cncref23_Near (x := x) (r := r) (n := sq2 u w) (Nat.le_trans hx (by decide)) (by omega) (by omega) hq
    refine ⟨g1, isRnd_le (by omega) ?_ g3⟩
    have : ((x.natAbs * x.natAbs : Nat) : Int) = x * x := Int.natAbs_mul_self
    omega
  exact ⟨key u hu q1, key w hw q2⟩
theorem midOf_ok {a b : Spk} (ha : okS a) (hb : okS b) {u w : Int} (hu : u.natAbs <= 100000000) (hw : w.natAbs <= 100000000) : okS (midOf a b u w) := by
  unfold midOf
  split
  · exact ⟨by simp, by simp, by simp, by simp⟩
  · rename_i h
    have hr := hf_bd ha.2.2.1 hb.2.2.1
    obtain ⟨⟨-, n1⟩, -, n2⟩ := near_S hu hw hr h
    exact ⟨by simp only; omega, by simp only; omega, hr, hf_bd2 ha.2.2.2 hb.2.2.2⟩
theorem midS_ok {a b : Spk} (ha : okS a) (hb : okS b) {dir : Int} (hd : dir = 1 \/ dir = -1) (full : Bool) : okS (midS a b dir full) :=
  midOf_ok ha hb (midD_bd ha hb hd full).1 (midD_bd ha hb hd full).2
theorem mid_tail {MN MH : List AC -> Option (List AC)} {a b : Spk} {u w : Int} (hu : u.natAbs <= 100000000) (hw : w.natAbs <= 100000000) (h1 : MH [I a.r, I b.r] = some [I (hf a.r b.r)]) (h2 : MH [I a.h, I b.h] = some [I (hf a.h b.h)])
    (hN : ¬ (u = 0 /\ w = 0) -> MN [I u, I (hf a.r b.r), I (sq2 u w)] = some [I (nearR u (hf a.r b.r) (sq2 u w))] /\ MN [I w, I (hf a.r b.r), I (sq2 u w)] = some [I (nearR w (hf a.r b.r) (sq2 u w))]) :
    (bif u == 0 then
      bif w == 0 then some [AC.int IntKind.i64 0, AC.int IntKind.i64 0, AC.int IntKind.i64 0, AC.int IntKind.i64 0, AC.bool false]
      else (MH [AC.int IntKind.i64 a.r, AC.int IntKind.i64 b.r]).bind fun o104 =>
       (MN [AC.int IntKind.i64 u, AC.int IntKind.i64 (Qas (nth AC.dead o104 0)), AC.int IntKind.i64 (IntKind.i64.wrap (IntKind.i64.wrap (u * u) + IntKind.i64.wrap (w * w)))]).bind fun o105 =>
       (MN [AC.int IntKind.i64 w, AC.int IntKind.i64 (Qas (nth AC.dead o104 0)), AC.int IntKind.i64 (IntKind.i64.wrap (IntKind.i64.wrap (u * u) + IntKind.i64.wrap (w * w)))]).bind fun o106 =>
       (MH [AC.int IntKind.i64 a.h, AC.int IntKind.i64 b.h]).bind fun o107 =>
       some [AC.int IntKind.i64 (Qas (nth AC.dead o105 0)), AC.int IntKind.i64 (Qas (nth AC.dead o106 0)), AC.int IntKind.i64 (Qas (nth AC.dead o104 0)), AC.int IntKind.i64 (Qas (nth AC.dead o107 0)), AC.bool true]
     else (MH [AC.int IntKind.i64 a.r, AC.int IntKind.i64 b.r]).bind fun o104 =>
       (MN [AC.int IntKind.i64 u, AC.int IntKind.i64 (Qas (nth AC.dead o104 0)), AC.int IntKind.i64 (IntKind.i64.wrap (IntKind.i64.wrap (u * u) + IntKind.i64.wrap (w * w)))]).bind fun o105 =>
       (MN [AC.int IntKind.i64 w, AC.int IntKind.i64 (Qas (nth AC.dead o104 0)), AC.int IntKind.i64 (IntKind.i64.wrap (IntKind.i64.wrap (u * u) + IntKind.i64.wrap (w * w)))]).bind fun o106 =>
       (MH [AC.int IntKind.i64 a.h, AC.int IntKind.i64 b.h]).bind fun o107 =>
       some [AC.int IntKind.i64 (Qas (nth AC.dead o105 0)), AC.int IntKind.i64 (Qas (nth AC.dead o106 0)), AC.int IntKind.i64 (Qas (nth AC.dead o104 0)), AC.int IntKind.i64 (Qas (nth AC.dead o107 0)), AC.bool true]) =
    some (spkR (midOf a b u w) ++ [B (decide (¬ (u = 0 /\ w = 0)))]) := by
  have q1 := sq_bd hu
  have q2 := sq_bd hw
  have e : IntKind.i64.wrap (IntKind.i64.wrap (u * u) + IntKind.i64.wrap (w * w)) = sq2 u w := by
    unfold sq2
    generalize u * u = x at *
    generalize w * w = y at *
    rw [Qab (x := x) (by omega), Qab (x := y) (by omega), Qab (by omega)]
  simp only [go_sem, e, h1, h2]
  unfold midOf
  by_cases h : u = 0 /\ w = 0
  · rw [if_pos h.1, if_pos h.2, if_pos h]
    simp [h]
  · obtain ⟨n1, n2⟩ := hN h
    rw [if_neg h]
    simp only [n1, n2, go_sem]
    have hd : decide (¬ (u = 0 /\ w = 0)) = true := decide_eq_true h
    rw [hd]
    by_cases hu0 : u = 0
    · rw [if_pos hu0, if_neg (fun hw0 => h ⟨hu0, hw0⟩)]; rfl
    · rw [if_neg hu0]; rfl
theorem a_cncref23_Middle {MN MH MC MD : List AC -> Option (List AC)} {a b : Spk} (ha : okS a) (hb : okS b) {dir : Int} (hd : dir = 1 \/ dir = -1) (full : Bool)
    (h1 : MH [I a.r, I b.r] = some [I (hf a.r b.r)]) (h2 : MH [I a.h, I b.h] = some [I (hf a.h b.h)])
    (hN : ∀ {u w : Int}, u.natAbs <= 100000000 -> w.natAbs <= 100000000 -> ¬ (u = 0 /\ w = 0) -> MN [I u, I (hf a.r b.r), I (sq2 u w)] = some [I (nearR u (hf a.r b.r) (sq2 u w))] /\ MN [I w, I (hf a.r b.r), I (sq2 u w)] = some [I (nearR w (hf a.r b.r) (sq2 u w))])
    (hC : MC [I a.u, I a.w, I a.r, I a.h, I b.u, I b.w, I b.r, I b.h] = some [I (crs a.u a.w b.u b.w)]) (hD : MD [I a.u, I a.w, I a.r, I a.h, I b.u, I b.w, I b.r, I b.h] = some [I (dt2 a.u a.w b.u b.w)])
    (hcb : (crs a.u a.w b.u b.w).natAbs <= 5000000000000000) :
    mf_cncref23_Middle MN MH MC MD [I a.u, I a.w, I a.r, I a.h, I b.u, I b.w, I b.r, I b.h, I dir, B full] = some (spkR (midS a b dir full) ++ [B (decide (¬ ((midD a b dir full).1 = 0 /\ (midD a b dir full).2 = 0)))]) := by
  have key := fun {u w : Int} (hu : u.natAbs <= 100000000) (hw : w.natAbs <= 100000000) => mid_tail (MN := MN) (MH := MH) (a := a) (b := b) hu hw h1 h2 (hN hu hw)
  have hbd := midD_bd ha hb hd full
  obtain ⟨a1, a2, -⟩ := ha
  obtain ⟨b1, b2, -⟩ := hb
  have w1 : IntKind.i64.wrap (0 - a.u) = -a.u := by rw [Qab (by omega)]; omega
  have w2 : IntKind.i64.wrap (0 - a.w) = -a.w := by rw [Qab (by omega)]; omega
  have w3 : IntKind.i64.wrap (a.u + b.u) = a.u + b.u := Qab (by omega)
  have w4 : IntKind.i64.wrap (a.w + b.w) = a.w + b.w := Qab (by omega)
  have w5 : IntKind.i64.wrap (0 - (a.u + b.u)) = -(a.u + b.u) := by rw [Qab (by omega)]; omega
  have w6 : IntKind.i64.wrap (0 - (a.w + b.w)) = -(a.w + b.w) := by rw [Qab (by omega)]; omega
  have w7 : IntKind.i64.wrap (b.w - a.w) = b.w - a.w := Qab (by omega)
  have w8 : IntKind.i64.wrap (a.u - b.u) = a.u - b.u := Qab (by omega)
  have w9 : IntKind.i64.wrap (dir * (b.w - a.w)) = dir * (b.w - a.w) := by rcases hd with rfl | rfl <;> exact Qab (by omega)
  have w10 : IntKind.i64.wrap (dir * (a.u - b.u)) = dir * (a.u - b.u) := by rcases hd with rfl | rfl <;> exact Qab (by omega)
  have w11 : IntKind.i64.wrap (crs a.u a.w b.u b.w * dir) = crs a.u a.w b.u b.w * dir := by rcases hd with rfl | rfl <;> exact Qab (by omega)
  rw [mf_cncref23_Middle_eq]
  try dsimp only [go_sem]
  unfold midS
  simp only [w1, w2, w3, w4, w5, w6, w7, w8, w9, w10, hC, hD, Option.bind_some, nth_zero', Qi0, gA, jA, wA, bA, w11]
  have fin : ∀ {x : Option (List AC)}, x = some (spkR (midOf a b (midD a b dir full).1 (midD a b dir full).2) ++ [B (decide (¬ ((midD a b dir full).1 = 0 /\ (midD a b dir full).2 = 0)))]) ->
      (bif dir != 1 then bif dir != -1 then some [AC.int IntKind.i64 0, AC.int IntKind.i64 0, AC.int IntKind.i64 0, AC.int IntKind.i64 0, AC.bool false] else x else x) = some (spkR (midOf a b (midD a b dir full).1 (midD a b dir full).2) ++ [B (decide (¬ ((midD a b dir full).1 = 0 /\ (midD a b dir full).2 = 0)))]) := by
    intro x hx
    rcases hd with rfl | rfl
    · rw [Qhy (by decide)]; exact hx
    · rw [Qiv (by decide), Qhy (by decide)]; exact hx
  refine fin ?_
  have hk := key hbd.1 hbd.2
  unfold midD at *
  cases full
  · simp only [cond_false, Bool.false_eq_true, if_false] at hk ⊢
    by_cases c1 : 0 < dt2 a.u a.w b.u b.w
    · rw [Qgh (show dt2 a.u a.w b.u b.w > 0 from c1)]
      by_cases c2 : 0 < crs a.u a.w b.u b.w * dir
      · rw [Qgh (show crs a.u a.w b.u b.w * dir > 0 from c2)]
        rw [if_pos ⟨c1, c2⟩] at hk ⊢
        exact hk
      · rw [Qcs (show ¬ crs a.u a.w b.u b.w * dir > 0 from c2), Qgh (show dt2 a.u a.w b.u b.w > 0 from c1)]
        rw [if_neg (fun h => c2 h.2), if_pos c1] at hk ⊢
        exact hk
    · rw [Qcs (show ¬ dt2 a.u a.w b.u b.w > 0 from c1), Qcs (show ¬ dt2 a.u a.w b.u b.w > 0 from c1)]
      rw [if_neg (fun h => c1 h.1), if_neg c1] at hk ⊢
      exact hk
  · simp only [cond_true, if_true] at hk ⊢
    exact hk
theorem Qha {x : Int} (h : x.natAbs <= 50000000) : x.natAbs <= 1000000000 := Nat.le_trans h (by decide)
theorem s_cncref23_Middle {a b : Spk} (ha : okS a) (hb : okS b) {dir : Int} (hd : dir = 1 \/ dir = -1) (full : Bool) :
    Qf7 [I a.u, I a.w, I a.r, I a.h, I b.u, I b.w, I b.r, I b.h, I dir, B full] = some (spkR (midS a b dir full) ++ [B (decide (¬ ((midD a b dir full).1 = 0 /\ (midD a b dir full).2 = 0)))]) := by
  have hc := (dt2_bd ha.1 ha.2.1 hb.1 hb.2.1).2
  exact a_cncref23_Middle ha hb hd full (s_half (by have := ha.2.2.1; omega) (by have := hb.2.2.1; omega)) (s_half (Nat.le_trans ha.2.2.2 (by decide)) (Nat.le_trans hb.2.2.2 (by decide)))
    (fun hu hw h => by obtain ⟨⟨g1, -⟩, g2, -⟩ := near_S hu hw (hf_bd ha.2.2.1 hb.2.2.1) h; exact ⟨g1, g2⟩)
    (s_cncref23_Cross (Qha ha.1) (Qha ha.2.1) (Qha hb.1) (Qha hb.2.1)) (s_cncref23_Dot (Qha ha.1) (Qha ha.2.1) (Qha hb.1) (Qha hb.2.1)) hc

def setS (a b : Spk) (dir : Int) (full : Bool) : Prop := full = false /\ 0 < crs a.u a.w b.u b.w * dir /\ sq2 (a.u - b.u) (a.w - b.w) <= 32 * mn a.r b.r - 64
theorem s_Flat {r n : Int} (hr : 0 <= r /\ r <= 50000000) : m_cncref23_Flat [I r, I n] = some [B (decide (n <= 32 * r - 64))] := by
  unfold m_cncref23_Flat
  rw [mf_cncref23_Flat_eq, Qab (x := 8 * r) (by omega), Qab (x := 8 * r * 4) (by omega), Qab (x := 8 * r * 4 - 64) (by omega), show 8 * r * 4 - 64 = 32 * r - 64 by omega]
instance {a b : Spk} {dir : Int} {full : Bool} : Decidable (setS a b dir full) := by unfold setS; infer_instance
theorem a_cncref23_settled {MF MC : List AC -> Option (List AC)} {a b : Spk} (ha : okS a) (hb : okS b) {dir : Int} (hd : dir = 1 \/ dir = -1) (full : Bool)
    (hF : ∀ {r n : Int}, (0 <= r /\ r <= 50000000) -> MF [I r, I n] = some [B (decide (n <= 32 * r - 64))])
    (hC : MC [I a.u, I a.w, I a.r, I a.h, I b.u, I b.w, I b.r, I b.h] = some [I (crs a.u a.w b.u b.w)]) (hcb : (crs a.u a.w b.u b.w).natAbs <= 5000000000000000) :
    mf_cncref23_settled MF MC [I a.u, I a.w, I a.r, I a.h, I b.u, I b.w, I b.r, I b.h, I dir, B full] = some [B (decide (setS a b dir full))] := by
  have hr : 0 <= mn a.r b.r /\ mn a.r b.r <= 50000000 := by
    have h1 := ha.2.2.1
    have h2 := hb.2.2.1
    unfold mn; split <;> omega
  obtain ⟨a1, a2, -⟩ := ha
  obtain ⟨b1, b2, -⟩ := hb
  have x1 := sub_nat a1 b1
  have x2 := sub_nat a2 b2
  have q1 := sq_bd x1
  have q2 := sq_bd x2
  have e : IntKind.i64.wrap (IntKind.i64.wrap ((a.u - b.u) * (a.u - b.u)) + IntKind.i64.wrap ((a.w - b.w) * (a.w - b.w))) = sq2 (a.u - b.u) (a.w - b.w) := by
    unfold sq2
    generalize (a.u - b.u) * (a.u - b.u) = x at *
    generalize (a.w - b.w) * (a.w - b.w) = y at *
    rw [Qab (x := x) (by omega), Qab (x := y) (by omega), Qab (by omega)]
  have w11 : IntKind.i64.wrap (crs a.u a.w b.u b.w * dir) = crs a.u a.w b.u b.w * dir := by rcases hd with rfl | rfl <;> exact Qab (by omega)
  rw [mf_cncref23_settled_eq, wrap_nat x1 (by decide), wrap_nat x2 (by decide), e]
  cases full
  · simp only [Bool.not_false, cond_true, hC, Option.bind_some, nth_zero', Qi0, gA, jA, wA, bA, w11, hF hr, boolOf_bool]
    by_cases c : 0 < crs a.u a.w b.u b.w * dir
    · rw [Qgh (show crs a.u a.w b.u b.w * dir > 0 from c)]
      by_cases c2 : sq2 (a.u - b.u) (a.w - b.w) <= 32 * mn a.r b.r - 64
      · rw [decide_eq_true c2, decide_eq_true (show setS a b dir false from ⟨rfl, c, c2⟩)]
      · rw [decide_eq_false c2, decide_eq_false (fun h : setS a b dir false => c2 h.2.2)]
    · rw [Qcs (show ¬ crs a.u a.w b.u b.w * dir > 0 from c), decide_eq_false (fun h : setS a b dir false => c h.2.1)]
  · simp only [Bool.not_true, cond_false]
    rw [decide_eq_false (fun h : setS a b dir true => by cases h.1)]
theorem s_cncref23_settled {a b : Spk} (ha : okS a) (hb : okS b) {dir : Int} (hd : dir = 1 \/ dir = -1) (full : Bool) :
    Qfm [I a.u, I a.w, I a.r, I a.h, I b.u, I b.w, I b.r, I b.h, I dir, B full] = some [B (decide (setS a b dir full))] :=
  a_cncref23_settled ha hb hd full s_Flat (s_cncref23_Cross (Qha ha.1) (Qha ha.2.1) (Qha hb.1) (Qha hb.2.1)) (dt2_bd ha.1 ha.2.1 hb.1 hb.2.1).2

noncomputable def pcsL (dir : Int) : Nat -> Bool -> Spk -> Spk -> List Spk
  | 0, _, _, b => [b]
  | k + 1, full, a, b => if setS a b dir full then [b] else pcsL dir k false a (midS a b dir full) ++ pcsL dir k false (midS a b dir full) b
theorem pcsL_len {dir : Int} : ∀ (k : Nat) (full : Bool) (a b : Spk), 1 <= (pcsL dir k full a b).length /\ (pcsL dir k full a b).length <= 2 ^ k
  | 0, _, _, b => by simp [pcsL]
  | k + 1, full, a, b => by
    have hp : 0 < 2 ^ k := Nat.two_pow_pos _
    have e3 : 2 ^ (k + 1) = 2 ^ k + 2 ^ k := by rw [Nat.pow_succ]; omega
    unfold pcsL
    split
    · simp; omega
    · have h1 := pcsL_len k false a (midS a b dir full) (dir := dir)
      have h2 := pcsL_len k false (midS a b dir full) b (dir := dir)
      rw [List.length_append]
      omega
theorem pcsL_ok {dir : Int} (hd : dir = 1 \/ dir = -1) : ∀ (k : Nat) (full : Bool) {a b : Spk}, okS a -> okS b -> ∀ s ∈ pcsL dir k full a b, okS s
  | 0, _, a, b, _, hb, s, hs => by simp [pcsL] at hs; subst hs; exact hb
  | k + 1, full, a, b, ha, hb, s, hs => by
    unfold pcsL at hs
    have hm := midS_ok ha hb hd full
    split at hs
    · simp at hs; subst hs; exact hb
    · rcases List.mem_append.1 hs with hs | hs
      · exact pcsL_ok hd k false ha hm s hs
      · exact pcsL_ok hd k false hm hb s hs
theorem s_pieces {dir : Int} (hd : dir = 1 \/ dir = -1) : ∀ (n k : Nat) (full : Bool) (a b : Spk), k <= 16 -> k < n -> okS a -> okS b ->
    Qgq n [I a.u, I a.w, I a.r, I a.h, I b.u, I b.w, I b.r, I b.h, I dir, B full, I (16 - k : Int)] = some [.view kSpk ((pcsL dir k full a b).map spkR)]
  | 0, k, _, _, _, _, hk, _, _ => by omega
  | n + 1, 0, full, a, b, _, _, ha, hb => by
    show mf_cncref23_pieces _ _ _ _ = _
    rw [mf_cncref23_pieces_eq, Qgh (by omega)]
    rfl
  | n + 1, k + 1, full, a, b, hk, hn, ha, hb => by
    have hm := midS_ok ha hb hd full
    have i1 := s_pieces hd n k false a (midS a b dir full) (by omega) (by omega) ha hm
    have i2 := s_pieces hd n k false (midS a b dir full) b (by omega) (by omega) hm hb
    have e1 := s_cncref23_settled ha hb hd full
    have e2 := s_cncref23_Middle ha hb hd full
    show mf_cncref23_pieces (Qgq n) Qf7 Qfm _ = _
    generalize Qgq n = MP at *
    generalize Qf7 = MM at *
    generalize Qfm = MS at *
    have l1 := (pcsL_len k false a (midS a b dir full) (dir := dir)).2
    have l2 := (pcsL_len k false (midS a b dir full) b (dir := dir)).2
    have l3 : 2 ^ k <= 2 ^ 16 := Nat.pow_le_pow_right (by omega) (by omega)
    rw [mf_cncref23_pieces_eq, Qcs (by omega), Qab (by omega), show (16 - ((k + 1 : Nat) : Int) + 1) = 16 - (k : Int) by omega]
    unfold pcsL
    generalize midS a b dir full = m at *
    generalize pcsL dir k false a m = p1 at *
    generalize pcsL dir k false m b = p2 at *
    simp only [List.cons_append, List.nil_append, spkR] at e2
    simp only [e1, e2, Option.bind_some, nth_zero', nth_1, nth_2, nth_3, Qi0, gA, jA, wA, bA, boolOf_bool, i1, i2, rowsOf_view]
    by_cases c : setS a b dir full
    · rw [if_pos c, Qiv (decide_eq_true c)]; rfl
    · rw [if_neg c, Qhy (decide_eq_false c), Qiv]
      · rw [List.map_append]
      · have e : ((List.map spkR p1 ++ List.map spkR p2).length * 32) <= 140737488355328 := by
          simp only [List.length_append, List.length_map]
          have : (2 : Nat) ^ 16 = 65536 := rfl
          omega
        exact Nat.ble_eq_true_of_le e
end Go.Bm
/- the reference's chords -/
set_option maxRecDepth 100000
namespace Go.Bm

theorem isMid_unique {n i j : Int} (hi : IsMid n i) (hj : IsMid n j) : i = j := by
 have key : ∀ {i j : Int}, IsMid n i -> IsMid n j -> ¬ i < j := by
  rintro i j ⟨h1, h2, -⟩ ⟨h4, h5, h6⟩ hlt
  rcases h6 with h6 | h6
  ·omega
  ·have h7 := Int.mul_le_mul (show i <= j - 1 by omega) (show i + 1 <= j by omega) (by omega) (by omega)
   omega
 have h1 := key hi hj
 have h2 := key hj hi
 omega
open Classical in
noncomputable def midR (n : Int) : Int := if h : ∃ j, IsMid n j then Classical.choose h else 0
theorem midR_of {n k : Int} (h : IsMid n k) : midR n = k := by
 have hx : ∃ j, IsMid n j := ⟨k, h⟩
 unfold midR
 rw [dif_pos hx]
 exact isMid_unique (Classical.choose_spec hx) h
theorem isMid_nat {n r : Nat} (h1 : r * r <= n) (h2 : n < (r + 1) * (r + 1)) : IsMid n (if r * r + r < n then r + 1 else r : Nat) := by
 have e0 : (r + 1) * (r + 1) = r * r + r + r + 1 := by grind
 unfold IsMid
 by_cases c : r * r + r < n
 ·rw [if_pos c]
  have e1 : ((r + 1 : Nat) : Int) * (((r + 1 : Nat) : Int) + 1) = ((r * r + r + r + r + 2 : Nat) : Int) := by
   have : ((r + 1 : Nat) : Int) + 1 = ((r + 2 : Nat) : Int) := by omega
   rw [this, <- Int.natCast_mul]
   congr 1
   grind
  have e2 : (((r + 1 : Nat) : Int) - 1) * ((r + 1 : Nat) : Int) = ((r * r + r : Nat) : Int) := by
   rw [show ((r + 1 : Nat) : Int) - 1 = (r : Int) by omega, <- Int.natCast_mul]
   congr 1
  rw [e1, e2]
  generalize r * r = A at *
  exact ⟨by omega, by omega, .inr (by omega)⟩
 ·rw [if_neg c]
  have e1 : (r : Int) * ((r : Int) + 1) = ((r * r + r : Nat) : Int) := by
   rw [show (r : Int) + 1 = ((r + 1 : Nat) : Int) by omega, <- Int.natCast_mul]
   congr 1
  rw [e1]
  refine ⟨by omega, by omega, ?_⟩
  rcases Nat.eq_zero_or_pos r with h | h
  ·left; omega
  ·right
   have e2 : ((r : Int) - 1) * (r : Int) = (((r - 1) * r : Nat) : Int) := by
    rw [show (r : Int) - 1 = ((r - 1 : Nat) : Int) by omega]; exact (Int.natCast_mul _ _).symm
   have := Nat.mul_lt_mul_of_pos_right (show r - 1 < r by omega) h
   rw [e2]; omega
noncomputable def endS (it : Itm) (p : Pt) : Spk := ⟨dU it p * 16, dW it p * 16, midR (sq2 (dU it p * 16) (dW it p * 16)), plH it.plane p * 16⟩
theorem mid_bd {n : Nat} (hn : n <= 2251799813685248) : 0 <= midR n /\ midR n <= 50000000 := by
 obtain ⟨r, -, h2, h3, -⟩ := s_cncref23_root (n := n) (by omega)
 have hm := isMid_nat h2 h3
 rw [midR_of hm]
 have : r < 50000000 := by
  by_cases c : r < 50000000
  ·exact c
  ·have := Nat.mul_le_mul (show 50000000 <= r by omega) (show 50000000 <= r by omega)
   omega
 split <;> omega
theorem endS_sq {it : Itm} {p : Pt} (hc : bd 1048576 it.ce) (hp : bd 1048576 p) : (dU it p * 16).natAbs <= 33554432 /\ (dW it p * 16).natAbs <= 33554432 /\ 0 <= sq2 (dU it p * 16) (dW it p * 16) /\ sq2 (dU it p * 16) (dW it p * 16) <= 2251799813685248 := by
 obtain ⟨h1, h2⟩ := dU_bd hc hp
 have h3 : (dU it p * 16).natAbs <= 33554432 := by omega
 have h4 : (dW it p * 16).natAbs <= 33554432 := by omega
 have q1 := sq_bd h3
 have q2 := sq_bd h4
 refine ⟨h3, h4, ?_⟩
 unfold sq2
 omega
theorem endS_ok {it : Itm} {p : Pt} (hc : bd 1048576 it.ce) (hp : bd 1048576 p) : okS (endS it p) := by
 obtain ⟨h1, h2, h3, h4⟩ := endS_sq hc hp
 have h5 := (pl_bd (pl := it.plane) hp).2.2
 obtain ⟨n, hn⟩ := Int.eq_ofNat_of_zero_le h3
 refine ⟨Nat.le_trans h1 (by decide), Nat.le_trans h2 (by decide), ?_, ?_⟩
 ·show 0 <= midR _ /\ midR _ <= _
  rw [hn] at h4 ⊢
  exact mid_bd (by omega)
 ·show (plH it.plane p * 16).natAbs <= _
  omega
theorem a_cncref23_spoke {MR MD : List AC -> Option (List AC)} {u w h : Int} {n r : Nat} (hu : u.natAbs <= 100000000) (hw : w.natAbs <= 100000000) (hh : h.natAbs <= 100000000) (hn : sq2 (u * 16) (w * 16) = n) (hn2 : n <= 2251799813685248)
  (hD : MD [I (u * 16), I (w * 16), I 0, I (h * 16), I (u * 16), I (w * 16), I 0, I (h * 16)] = some [I (sq2 (u * 16) (w * 16))]) (hR : MR [I n] = some [I r]) (h2 : r * r <= n) (h3 : n < (r + 1) * (r + 1)) :
  mf_cncref23_spoke MR MD [I u, I w, I 0, I h] = some (spkR ⟨u * 16, w * 16, midR n, h * 16⟩) := by
 have hm := isMid_nat h2 h3
 rw [midR_of hm]
 rw [mf_cncref23_spoke_eq, Qab (x := u * 16) (by omega), Qab (x := w * 16) (by omega), Qab (x := h * 16) (by omega)]
 have hr : r <= r * r := by
  rcases Nat.eq_zero_or_pos r with h | h
  ·subst h; simp
  ·exact Nat.le_mul_of_pos_left r h
 have e1 : (r : Int) * ((r : Int) + 1) = ((r * r + r : Nat) : Int) := by
  rw [show (r : Int) + 1 = ((r + 1 : Nat) : Int) by omega, <- Int.natCast_mul]
  congr 1
 have w1 : IntKind.i64.wrap ((r : Int) * ((r + 1 : Nat) : Int)) = ((r * r + r : Nat) : Int) := by
  rw [show ((r + 1 : Nat) : Int) = (r : Int) + 1 by omega, e1, Qab (by omega)]
 have w2 : IntKind.i64.wrap ((r : Int) + 1) = ((r + 1 : Nat) : Int) := by rw [Qab (by omega)]; omega
 simp only [go_sem, hD, hn, hR, w1, w2]
 by_cases c : r * r + r < n
 ·rw [if_pos (by omega), if_pos c]
 ·rw [if_neg (by omega), if_neg c]
theorem s_cncref23_spoke {it : Itm} {p : Pt} (hc : bd 1048576 it.ce) (hp : bd 1048576 p) : m_cncref23_spoke [I (dU it p), I (dW it p), I 0, I (plH it.plane p)] = some (spkR (endS it p)) := by
 obtain ⟨h1, h2, h3, h4⟩ := endS_sq hc hp
 obtain ⟨n, hn⟩ := Int.eq_ofNat_of_zero_le h3
 have h5 := (pl_bd (pl := it.plane) hp).2.2
 have h6 := dU_bd hc hp
 have hd := s_cncref23_Dot (r := 0) (h := plH it.plane p * 16) (s := 0) (g := plH it.plane p * 16) (Nat.le_trans h1 (by decide)) (Nat.le_trans h2 (by decide)) (Nat.le_trans h1 (by decide)) (Nat.le_trans h2 (by decide))
 rw [hn] at h4
 obtain ⟨r, r1, r2, r3, -⟩ := s_cncref23_root (n := n) (by omega)
 have := a_cncref23_spoke (MR := Qfn) (MD := Qd4) (u := dU it p) (w := dW it p) (h := plH it.plane p) (by omega) (by omega) (by omega) hn (by omega) hd r1 r2 r3
 rw [show endS it p = ⟨dU it p * 16, dW it p * 16, midR n, plH it.plane p * 16⟩ from by unfold endS; rw [hn]]
 exact this
theorem a_cncref23_Ends {MS ME : List AC -> Option (List AC)} {it : Itm} (h1 : ME (itmR it) = some [I (dU it it.fr), I (dW it it.fr), I 0, I (plH it.plane it.fr), I (dU it it.to), I (dW it it.to), I 0, I (plH it.plane it.to)])
  (h2 : MS [I (dU it it.fr), I (dW it it.fr), I 0, I (plH it.plane it.fr)] = some (spkR (endS it it.fr))) (h3 : MS [I (dU it it.to), I (dW it it.to), I 0, I (plH it.plane it.to)] = some (spkR (endS it it.to))) :
  mf_cncref23_Ends MS ME (itmR it) = some (spkR (endS it it.fr) ++ spkR (endS it it.to)) := by
 rw [mf_cncref23_Ends_eq]
 simp only [go_sem, h1, h2, h3]
 rfl
theorem s_cncref23_Ends {it : Itm} (h : Qhf it) (h3 : it.kind = 3) : m_cncref23_Ends (itmR it) = some (spkR (endS it it.fr) ++ spkR (endS it it.to)) := by
 obtain ⟨-, h1, h2, ha⟩ := h
 obtain ⟨hp, -, hc, -⟩ := ha h3
 exact a_cncref23_Ends (s_cncref23_ends hp (by decide) h1 h2 hc) (s_cncref23_spoke hc h1) (s_cncref23_spoke hc h2)

noncomputable def Qfw (it : Itm) : List Spk := endS it it.fr :: pcsL it.dir 16 it.full (endS it it.fr) (endS it it.to)
theorem spokesP_ok {it : Itm} (h : Qhf it) (h3 : it.kind = 3) : ∀ s ∈ Qfw it, okS s := by
 obtain ⟨-, h1, h2, ha⟩ := h
 obtain ⟨hp, hd, hc, -⟩ := ha h3
 intro s hs
 rcases List.mem_cons.1 hs with rfl | hs
 ·exact endS_ok hc h1
 ·exact pcsL_ok hd 16 _ (endS_ok hc h1) (endS_ok hc h2) s hs
theorem spokesP_len (it : Itm) : 2 <= (Qfw it).length /\ (Qfw it).length <= 65537 := by
 have := pcsL_len (dir := it.dir) 16 it.full (endS it it.fr) (endS it it.to)
 have e : (2 : Nat) ^ 16 = 65536 := rfl
 rw [e] at this
 unfold Qfw
 rw [List.length_cons]
 omega
theorem a_cncref23_Spokes {MP ME MV : List AC -> Option (List AC)} {it : Itm} (hV : ∃ v, MV (itmR it) = some [B v] /\ (v = true ↔ Qhf it)) (h : Qhf it)
  (hE : it.kind = 3 -> ME (itmR it) = some (spkR (endS it it.fr) ++ spkR (endS it it.to)))
  (hP : it.kind = 3 -> MP (spkR (endS it it.fr) ++ spkR (endS it it.to) ++ [I it.dir, B it.full, I 0]) = some [.view kSpk ((pcsL it.dir 16 it.full (endS it it.fr) (endS it it.to)).map spkR)]) :
  mf_cncref23_Spokes MP ME MV (itmR it) = if it.kind = 3 then some [.view kSpk ((Qfw it).map spkR), B true] else some [.view kSpk [], B false] := by
 obtain ⟨v, hv, hvv⟩ := hV
 rw [mf_cncref23_Spokes_eq]
 by_cases h3 : it.kind = 3
 ·have e := hE h3
  have p := hP h3
  have hl := (spokesP_len it).2
  unfold Qfw at hl ⊢
  generalize endS it it.fr = a at *
  generalize endS it it.to = b at *
  generalize pcsL it.dir 16 it.full a b = l at *
  simp only [List.cons_append, List.nil_append] at e p
  simp only [go_sem, hv, e, p]
  rw [if_neg (by simp [h3]), if_neg (by simp [hvv.2 h]), if_pos (by simp at hl ⊢; omega), if_pos h3]
  rfl
 ·simp only [go_sem]
  rw [if_pos h3, if_neg h3]
theorem s_cncref23_Spokes {it : Itm} (h : Qhf it) : Qhs (itmR it) = if it.kind = 3 then some [.view kSpk ((Qfw it).map spkR), B true] else some [.view kSpk [], B false] := by
 refine a_cncref23_Spokes (s_cncref23_Valid it) h (fun h3 => s_cncref23_Ends h h3) fun h3 => ?_
 obtain ⟨-, h1, h2, ha⟩ := h
 obtain ⟨hp, hd, hc, -⟩ := ha h3
 exact s_pieces hd 20 16 it.full _ _ (by omega) (by omega) (endS_ok hc h1) (endS_ok hc h2)

noncomputable def chPt (it : Itm) (s : Spk) : Pt := spP it.plane (plU it.plane (fine it.ce) + s.u) (plW it.plane (fine it.ce) + s.w) s.h
noncomputable def Qfv (it : Itm) : List Pt := if it.kind = 3 then (Qfw it).map (chPt it) else [fine it.fr, fine it.to]
theorem sp_bd {pl u w h : Int} {b : Nat} (hu : u.natAbs <= b) (hw : w.natAbs <= b) (hh : h.natAbs <= b) : bd b (spP pl u w h) := by
 unfold spP bd
 split
 ·exact ⟨hu, hw, hh⟩
 ·split
  ·exact ⟨hw, hh, hu⟩
  ·exact ⟨hh, hu, hw⟩
theorem chPt_bd {it : Itm} {s : Spk} (hc : bd 1048576 it.ce) (hs : okS s) : bd 67108864 (chPt it s) := by
 obtain ⟨h1, h2, -⟩ := pl_bd (pl := it.plane) (fine_bd hc)
 obtain ⟨s1, s2, -, s4⟩ := hs
 exact sp_bd (by omega) (by omega) (by omega)
theorem chordsP_bd {it : Itm} (h : Qhf it) : ∀ p ∈ Qfv it, bd 67108864 p := by
 intro p hp
 unfold Qfv at hp
 split at hp
 ·rename_i h3
  simp only [List.mem_map] at hp
  obtain ⟨s, hs, rfl⟩ := hp
  exact chPt_bd (h.2.2.2 h3).2.2.1 (spokesP_ok h h3 s hs)
 ·simp at hp
  rcases hp with rfl | rfl
  ·exact Qcb (fine_bd h.2.1) (by decide)
  ·exact Qcb (fine_bd h.2.2.1) (by decide)
theorem chordsP_len (it : Itm) : 2 <= (Qfv it).length /\ (Qfv it).length <= 65537 := by
 have := spokesP_len it
 unfold Qfv
 split <;> simp <;> omega
theorem l_Chords {MS MP MF MK MV : List AC -> Option (List AC)} {it : Itm} {l : List Spk} {cu cw : Int} (hl : l.length <= 65537) (hcu : cu.natAbs <= 16777216) (hcw : cw.natAbs <= 16777216) (hok : ∀ s ∈ l, okS s)
  (hS : ∀ {u w h : Int}, MS [I u, I w, I h, I it.plane] = some (ptR (spP it.plane u w h))) :
  ∀ (k i : Nat), i + k = l.length -> Qbl (Qfx MS MP MF MK MV) (.view kPt (((l.take i).map fun s => spP it.plane (cu + s.u) (cw + s.w) s.h).map ptR) :: I cu :: I cw :: .view kSpk (l.map spkR) :: I l.length :: I i :: itmR it) =
   some (1, [.view kPt ((l.map fun s => spP it.plane (cu + s.u) (cw + s.w) s.h).map ptR)])
 | 0, i, hi => by
  refine Qbn ?_ (by simp)
  rw [st_cncref23_Chords_9_eq]
  simp only [go_sem]
  rw [if_neg (by omega), List.take_of_length_le (by omega)]
 | k + 1, i, hi => by
  have hlt : i < l.length := by omega
  have hs : Qfx MS MP MF MK MV (.view kPt (((l.take i).map fun s => spP it.plane (cu + s.u) (cw + s.w) s.h).map ptR) :: I cu :: I cw :: .view kSpk (l.map spkR) :: I l.length :: I i :: itmR it) =
    some (0, .view kPt (((l.take (i + 1)).map fun s => spP it.plane (cu + s.u) (cw + s.w) s.h).map ptR) :: I cu :: I cw :: .view kSpk (l.map spkR) :: I l.length :: I (i + 1 : Nat) :: itmR it) := by
   rw [st_cncref23_Chords_9_eq]
   have hr : nth [] (l.map spkR) i = spkR l[i] := nth_map _ _ _ _ hlt
   have ho := hok _ (List.getElem_mem hlt)
   have ht : l.take (i + 1) = l.take i ++ [l[i]] := by rw [List.take_add_one, List.getElem?_eq_getElem hlt]; rfl
   rw [ht]
   generalize l[i] = s at *
   obtain ⟨s1, s2, -⟩ := ho
   simp only [go_sem, Int.toNat_natCast, List.length_map, hr]
   rw [if_pos (by omega), if_pos (by omega), Qab (x := cu + s.u) (by omega), Qab (x := cw + s.w) (by omega), Qab (x := (i : Int) + 1) (by omega)]
   simp only [hS, go_sem]
   rw [if_pos (by simp only [List.length_append, List.length_map, List.length_take, List.length_cons, List.length_nil]; omega), List.map_append, List.map_append]
   rfl
  rw [Qbk hs]
  exact l_Chords hl hcu hcw hok hS k (i + 1) (by omega)
theorem a_cncref23_Chords {MS MP MF MK MV : List AC -> Option (List AC)} {it : Itm} (hV : ∃ v, MV (itmR it) = some [B v] /\ (v = true ↔ Qhf it)) (h : Qhf it)
  (hK : MK (itmR it) = if it.kind = 3 then some [.view kSpk ((Qfw it).map spkR), B true] else some [.view kSpk [], B false])
  (hF : ∀ {p : Pt}, bd 100000000 p -> MF [I p.x, I p.y, I p.z] = some (ptR (fine p))) (hP : isPl it.plane -> ∀ {p : Pt}, MP [I p.x, I p.y, I p.z, I it.plane] = some [I (plU it.plane p), I (plW it.plane p), I (plH it.plane p)])
  (hS : isPl it.plane -> ∀ {u w h : Int}, MS [I u, I w, I h, I it.plane] = some (ptR (spP it.plane u w h))) :
  mf_cncref23_Chords MS MP MF MK MV (Qbl (Qfx MS MP MF MK MV)) (itmR it) = some [.view kPt ((Qfv it).map ptR), B true] := by
 obtain ⟨v, hv, hvv⟩ := hV
 rw [mf_cncref23_Chords_eq]
 have hv1 := hvv.2 h
 subst hv1
 obtain ⟨-, h1, h2, ha⟩ := id h
 by_cases h3 : it.kind = 3
 ·obtain ⟨hp, hd, hc, -⟩ := ha h3
  rw [if_pos h3] at hK
  obtain ⟨c1, c2, c3⟩ := pl_bd (pl := it.plane) (fine_bd hc)
  have hl := l_Chords (MS := MS) (MP := MP) (MF := MF) (MK := MK) (MV := MV) (it := it) (l := Qfw it) (cu := plU it.plane (fine it.ce)) (cw := plW it.plane (fine it.ce)) (spokesP_len it).2 c1 c2 (spokesP_ok h h3) (hS hp) (Qfw it).length 0 (by omega)
  have hl' : Qbl (Qfx MS MP MF MK MV) [.view kPt [], I (plU it.plane (fine it.ce)), I (plW it.plane (fine it.ce)), .view kSpk ((Qfw it).map spkR), I (Qfw it).length, I 0, I it.kind, I it.block, I it.fr.x, I it.fr.y, I it.fr.z, I it.to.x, I it.to.y, I it.to.z, I it.plane, I it.ce.x, I it.ce.y, I it.ce.z, I it.dir, B it.full, I it.feed, B it.perRev, I it.side, I it.radius, I it.blend, I it.n, I it.speed, B it.on] =
   some (1, [.view kPt (((Qfw it).map fun s => spP it.plane (plU it.plane (fine it.ce) + s.u) (plW it.plane (fine it.ce) + s.w) s.h).map ptR)]) := hl
  have hf := hF (Qcb hc (by decide))
  unfold Qfv
  rw [if_pos h3]
  have hpp := @hP hp (fine it.ce)
  simp only [go_sem, hv, hK, hf, hpp, List.length_map, hl']
  simp only [not_true_eq_false, if_false]
  rfl
 ·rw [if_neg h3] at hK
  have f1 := hF (Qcb h1 (by decide))
  have f2 := hF (Qcb h2 (by decide))
  unfold Qfv
  rw [if_neg h3]
  simp only [go_sem, hv, hK, f1, f2]
  simp
theorem s_cncref23_Chords {it : Itm} (h : Qhf it) : m_cncref23_Chords (itmR it) = some [.view kPt ((Qfv it).map ptR), B true] :=
 a_cncref23_Chords (s_cncref23_Valid it) h (s_cncref23_Spokes h) s_Fine (fun hp => s_Plane hp) (fun hp => s_Space hp)
end Go.Bm
/- the program's lengths, spokes and chords: they are the reference's -/
set_option maxRecDepth 100000
namespace Go.Bm

theorem sq_wrap {a b : Pt} (ha : bd 67108864 a) (hb : bd 67108864 b) :
    IntKind.i64.wrap (IntKind.i64.wrap (IntKind.i64.wrap (0 + IntKind.i64.wrap (IntKind.i64.wrap (a.x - b.x) * IntKind.i64.wrap (a.x - b.x))) + IntKind.i64.wrap (IntKind.i64.wrap (a.y - b.y) * IntKind.i64.wrap (a.y - b.y))) + IntKind.i64.wrap (IntKind.i64.wrap (a.z - b.z) * IntKind.i64.wrap (a.z - b.z))) = sqD a b := by
  have h : ∀ x y : Int, x.natAbs <= 67108864 -> y.natAbs <= 67108864 -> 0 <= (x - y) * (x - y) /\ (x - y) * (x - y) <= 18014398509481984 := by
    intro x y hx hy
    exact sq_bd (x := x - y) (A := 134217728) (by omega)
  have h1 := h _ _ ha.1 hb.1
  have h2 := h _ _ ha.2.1 hb.2.1
  have h3 := h _ _ ha.2.2 hb.2.2
  obtain ⟨a1, a2, a3⟩ := ha
  obtain ⟨b1, b2, b3⟩ := hb
  rw [Qab (x := a.x - b.x) (by omega), Qab (x := a.y - b.y) (by omega), Qab (x := a.z - b.z) (by omega)]
  unfold sqD dotP subP
  simp only
  generalize (a.x - b.x) * (a.x - b.x) = u at *
  generalize (a.y - b.y) * (a.y - b.y) = v at *
  generalize (a.z - b.z) * (a.z - b.z) = w at *
  rw [Qab (x := u) (by omega), Qab (x := 0 + u) (by omega), Qab (x := v) (by omega), Qab (x := 0 + u + v) (by omega), Qab (x := w) (by omega), Qab (by omega), Int.zero_add]
theorem a_curve_Length {M : List AC -> Option (List AC)} {a b : Pt} {n : Nat} (ha : bd 67108864 a) (hb : bd 67108864 b) (hn : sqD a b = n)
    (hM : ∃ r : Nat, M [I n, I 1] = some [I ((if ((1 : Int) = 1 /\ r * r < n) \/ ((1 : Int) = 2 /\ r * r + r < n) then r + 1 else r : Nat) : Int), B true] /\ r * r <= n /\ n < (r + 1) * (r + 1)) :
    mf_curve_Length M [I a.x, I a.y, I a.z, I b.x, I b.y, I b.z] = some [I (lenP a b)] := by
  obtain ⟨r, h1, h2, h3⟩ := hM
  have hu := isUp_nat h2 h3
  rw [mf_curve_Length_eq, sq_wrap ha hb, hn]
  simp only [go_sem, h1]
  unfold lenP
  rw [hn, upR_of hu]
  congr 3
  by_cases c : r * r < n
  · rw [if_pos (.inl ⟨trivial, c⟩), if_pos c]
  · rw [if_neg (by simp [c]), if_neg c]
theorem s_curve_Length {a b : Pt} (ha : bd 67108864 a) (hb : bd 67108864 b) : Qgf [I a.x, I a.y, I a.z, I b.x, I b.y, I b.z] = some [I (lenP a b)] := by
  have h0 := sqD_nn a b
  have h1 := sqD_le ha hb (Nat.le_refl _)
  obtain ⟨n, hn⟩ := Int.eq_ofNat_of_zero_le h0
  exact a_curve_Length ha hb hn (s_wide_Sqrt (by omega) (.inl rfl))

theorem mid_tailC {MO : List AC -> Option (List AC)} {a b : Spk} {u w : Int} (ha : okS a) (hb : okS b) (hu : u.natAbs <= 100000000) (hw : w.natAbs <= 100000000)
    (hO : ¬ (u = 0 /\ w = 0) -> MO [I u, I (hf a.r b.r), I (sq2 u w), I 2] = some [I (nearR u (hf a.r b.r) (sq2 u w)), B true] /\ MO [I w, I (hf a.r b.r), I (sq2 u w), I 2] = some [I (nearR w (hf a.r b.r) (sq2 u w)), B true]) :
    (bif u == 0 then
      bif w == 0 then some [AC.int IntKind.i64 0, AC.int IntKind.i64 0, AC.int IntKind.i64 0, AC.int IntKind.i64 0, AC.bool false]
      else (MO [AC.int IntKind.i64 u, AC.int IntKind.i64 ((IntKind.i64.wrap (IntKind.i64.wrap (a.r + b.r) + 1)).fdiv (2 ^ min (Int.toNat 1) IntKind.i64.bits)), AC.int IntKind.i64 (IntKind.i64.wrap (IntKind.i64.wrap (u * u) + IntKind.i64.wrap (w * w))), AC.int IntKind.i64 2]).bind fun o36 =>
       (MO [AC.int IntKind.i64 w, AC.int IntKind.i64 ((IntKind.i64.wrap (IntKind.i64.wrap (a.r + b.r) + 1)).fdiv (2 ^ min (Int.toNat 1) IntKind.i64.bits)), AC.int IntKind.i64 (IntKind.i64.wrap (IntKind.i64.wrap (u * u) + IntKind.i64.wrap (w * w))), AC.int IntKind.i64 2]).bind fun o37 =>
       some [AC.int IntKind.i64 (Qas (nth AC.dead o36 0)), AC.int IntKind.i64 (Qas (nth AC.dead o37 0)), AC.int IntKind.i64 ((IntKind.i64.wrap (IntKind.i64.wrap (a.r + b.r) + 1)).fdiv (2 ^ min (Int.toNat 1) IntKind.i64.bits)), AC.int IntKind.i64 ((IntKind.i64.wrap (IntKind.i64.wrap (a.h + b.h) + 1)).fdiv (2 ^ min (Int.toNat 1) IntKind.i64.bits)), AC.bool true]
     else (MO [AC.int IntKind.i64 u, AC.int IntKind.i64 ((IntKind.i64.wrap (IntKind.i64.wrap (a.r + b.r) + 1)).fdiv (2 ^ min (Int.toNat 1) IntKind.i64.bits)), AC.int IntKind.i64 (IntKind.i64.wrap (IntKind.i64.wrap (u * u) + IntKind.i64.wrap (w * w))), AC.int IntKind.i64 2]).bind fun o36 =>
       (MO [AC.int IntKind.i64 w, AC.int IntKind.i64 ((IntKind.i64.wrap (IntKind.i64.wrap (a.r + b.r) + 1)).fdiv (2 ^ min (Int.toNat 1) IntKind.i64.bits)), AC.int IntKind.i64 (IntKind.i64.wrap (IntKind.i64.wrap (u * u) + IntKind.i64.wrap (w * w))), AC.int IntKind.i64 2]).bind fun o37 =>
       some [AC.int IntKind.i64 (Qas (nth AC.dead o36 0)), AC.int IntKind.i64 (Qas (nth AC.dead o37 0)), AC.int IntKind.i64 ((IntKind.i64.wrap (IntKind.i64.wrap (a.r + b.r) + 1)).fdiv (2 ^ min (Int.toNat 1) IntKind.i64.bits)), AC.int IntKind.i64 ((IntKind.i64.wrap (IntKind.i64.wrap (a.h + b.h) + 1)).fdiv (2 ^ min (Int.toNat 1) IntKind.i64.bits)), AC.bool true]) =
    some (spkR (midOf a b u w) ++ [B (decide (¬ (u = 0 /\ w = 0)))]) := by
  have q1 := sq_bd hu
  have q2 := sq_bd hw
  have e : IntKind.i64.wrap (IntKind.i64.wrap (u * u) + IntKind.i64.wrap (w * w)) = sq2 u w := by
    unfold sq2
    generalize u * u = x at *
    generalize w * w = y at *
    rw [Qab (x := x) (by omega), Qab (x := y) (by omega), Qab (by omega)]
  have er : (IntKind.i64.wrap (IntKind.i64.wrap (a.r + b.r) + 1)).fdiv (2 ^ min (Int.toNat 1) IntKind.i64.bits) = hf a.r b.r := by
    have h1 := ha.2.2.1
    have h2 := hb.2.2.1
    rw [Qab (x := a.r + b.r) (by omega), Qab (x := a.r + b.r + 1) (by omega), show (2 ^ min (Int.toNat 1) IntKind.i64.bits : Int) = 2 from rfl, Int.fdiv_eq_ediv_of_nonneg _ (by omega)]
    rfl
  have eh : (IntKind.i64.wrap (IntKind.i64.wrap (a.h + b.h) + 1)).fdiv (2 ^ min (Int.toNat 1) IntKind.i64.bits) = hf a.h b.h := by
    have h1 := ha.2.2.2
    have h2 := hb.2.2.2
    rw [Qab (x := a.h + b.h) (by omega), Qab (x := a.h + b.h + 1) (by omega), show (2 ^ min (Int.toNat 1) IntKind.i64.bits : Int) = 2 from rfl, Int.fdiv_eq_ediv_of_nonneg _ (by omega)]
    rfl
  simp only [er, eh, e]
  simp only [go_sem]
  unfold midOf
  by_cases h : u = 0 /\ w = 0
  · rw [if_pos h.1, if_pos h.2, if_pos h]
    simp [h]
  · obtain ⟨n1, n2⟩ := hO h
    rw [if_neg h]
    simp only [n1, n2, go_sem]
    have hd : decide (¬ (u = 0 /\ w = 0)) = true := decide_eq_true h
    rw [hd]
    by_cases hu0 : u = 0
    · rw [if_pos hu0, if_neg (fun hw0 => h ⟨hu0, hw0⟩)]; rfl
    · rw [if_neg hu0]; rfl
theorem a_curve_Middle {MO MC MD : List AC -> Option (List AC)} {a b : Spk} (ha : okS a) (hb : okS b) {dir : Int} (hd : dir = 1 \/ dir = -1) (full : Bool)
    (hO : ∀ {u w : Int}, u.natAbs <= 100000000 -> w.natAbs <= 100000000 -> ¬ (u = 0 /\ w = 0) -> MO [I u, I (hf a.r b.r), I (sq2 u w), I 2] = some [I (nearR u (hf a.r b.r) (sq2 u w)), B true] /\ MO [I w, I (hf a.r b.r), I (sq2 u w), I 2] = some [I (nearR w (hf a.r b.r) (sq2 u w)), B true])
    (hC : MC [I a.u, I a.w, I a.r, I a.h, I b.u, I b.w, I b.r, I b.h] = some [I (crs a.u a.w b.u b.w)]) (hD : MD [I a.u, I a.w, I a.r, I a.h, I b.u, I b.w, I b.r, I b.h] = some [I (dt2 a.u a.w b.u b.w)])
    (hcb : (crs a.u a.w b.u b.w).natAbs <= 5000000000000000) :
    mf_curve_Middle MO MC MD [I a.u, I a.w, I a.r, I a.h, I b.u, I b.w, I b.r, I b.h, I dir, B full] = some (spkR (midS a b dir full) ++ [B (decide (¬ ((midD a b dir full).1 = 0 /\ (midD a b dir full).2 = 0)))]) := by
  have key := fun {u w : Int} (hu : u.natAbs <= 100000000) (hw : w.natAbs <= 100000000) => mid_tailC (MO := MO) (a := a) (b := b) ha hb hu hw (hO hu hw)
  have hbd := midD_bd ha hb hd full
  obtain ⟨a1, a2, -⟩ := ha
  obtain ⟨b1, b2, -⟩ := hb
  have w1 : IntKind.i64.wrap (0 - a.u) = -a.u := by rw [Qab (by omega)]; omega
  have w2 : IntKind.i64.wrap (0 - a.w) = -a.w := by rw [Qab (by omega)]; omega
  have w3 : IntKind.i64.wrap (a.u + b.u) = a.u + b.u := Qab (by omega)
  have w4 : IntKind.i64.wrap (a.w + b.w) = a.w + b.w := Qab (by omega)
  have w5 : IntKind.i64.wrap (0 - (a.u + b.u)) = -(a.u + b.u) := by rw [Qab (by omega)]; omega
  have w6 : IntKind.i64.wrap (0 - (a.w + b.w)) = -(a.w + b.w) := by rw [Qab (by omega)]; omega
  have w7 : IntKind.i64.wrap (b.w - a.w) = b.w - a.w := Qab (by omega)
  have w8 : IntKind.i64.wrap (a.u - b.u) = a.u - b.u := Qab (by omega)
  have w9 : IntKind.i64.wrap (dir * (b.w - a.w)) = dir * (b.w - a.w) := by rcases hd with rfl | rfl <;> exact Qab (by omega)
  have w10 : IntKind.i64.wrap (dir * (a.u - b.u)) = dir * (a.u - b.u) := by rcases hd with rfl | rfl <;> exact Qab (by omega)
  have w11 : IntKind.i64.wrap (crs a.u a.w b.u b.w * dir) = crs a.u a.w b.u b.w * dir := by rcases hd with rfl | rfl <;> exact Qab (by omega)
  rw [mf_curve_Middle_eq]
  try dsimp only [go_sem]
  unfold midS
  simp only [w1, w2, w3, w4, w5, w6, w7, w8, w9, w10, hC, hD, Option.bind_some, nth_zero', Qi0, gA, jA, wA, bA, w11]
  have fin : ∀ {x : Option (List AC)}, x = some (spkR (midOf a b (midD a b dir full).1 (midD a b dir full).2) ++ [B (decide (¬ ((midD a b dir full).1 = 0 /\ (midD a b dir full).2 = 0)))]) ->
      (bif dir != 1 then bif dir != -1 then some [AC.int IntKind.i64 0, AC.int IntKind.i64 0, AC.int IntKind.i64 0, AC.int IntKind.i64 0, AC.bool false] else x else x) = some (spkR (midOf a b (midD a b dir full).1 (midD a b dir full).2) ++ [B (decide (¬ ((midD a b dir full).1 = 0 /\ (midD a b dir full).2 = 0)))]) := by
    intro x hx
    rcases hd with rfl | rfl
    · rw [Qhy (by decide)]; exact hx
    · rw [Qiv (by decide), Qhy (by decide)]; exact hx
  refine fin ?_
  have hk := key hbd.1 hbd.2
  unfold midD at *
  cases full
  · simp only [cond_false, Bool.false_eq_true, if_false] at hk ⊢
    by_cases c1 : 0 < dt2 a.u a.w b.u b.w
    · rw [Qcs (show ¬ dt2 a.u a.w b.u b.w <= 0 by omega)]
      by_cases c2 : 0 < crs a.u a.w b.u b.w * dir
      · rw [Qcs (show ¬ crs a.u a.w b.u b.w * dir <= 0 by omega)]
        rw [if_pos ⟨c1, c2⟩] at hk ⊢
        exact hk
      · rw [Qgh (show crs a.u a.w b.u b.w * dir <= 0 by omega)]
        rw [if_neg (fun h => c2 h.2), if_pos c1] at hk ⊢
        exact hk
    · rw [Qgh (show dt2 a.u a.w b.u b.w <= 0 by omega)]
      rw [if_neg (fun h => c1 h.1), if_neg c1] at hk ⊢
      exact hk
  · simp only [cond_true, if_true] at hk ⊢
    exact hk
theorem over_S {u w r : Int} (hu : u.natAbs <= 100000000) (hw : w.natAbs <= 100000000) (hr : 0 <= r /\ r <= 50000000) (h : ¬ (u = 0 /\ w = 0)) :
    m_wide_Over [I u, I r, I (sq2 u w), I 2] = some [I (nearR u r (sq2 u w)), B true] /\ m_wide_Over [I w, I r, I (sq2 u w), I 2] = some [I (nearR w r (sq2 u w)), B true] := by
  have hp := sq2_pos h
  have h1 := sq_bd hu
  have h2 := sq_bd hw
  have h3 : sq2 u w <= 20000000000000000 := by unfold sq2; omega
  exact ⟨s_wide_Over (by omega) (by omega) (by omega), s_wide_Over (by omega) (by omega) (by omega)⟩
theorem s_curve_Middle {a b : Spk} (ha : okS a) (hb : okS b) {dir : Int} (hd : dir = 1 \/ dir = -1) (full : Bool) :
    m_curve_Middle [I a.u, I a.w, I a.r, I a.h, I b.u, I b.w, I b.r, I b.h, I dir, B full] = some (spkR (midS a b dir full) ++ [B (decide (¬ ((midD a b dir full).1 = 0 /\ (midD a b dir full).2 = 0)))]) := by
  have hc := (dt2_bd ha.1 ha.2.1 hb.1 hb.2.1).2
  exact a_curve_Middle ha hb hd full (fun hu hw h => over_S hu hw (hf_bd ha.2.2.1 hb.2.2.1) h)
    (s_curve_cross (Qha ha.1) (Qha ha.2.1) (Qha hb.1) (Qha hb.2.1)) (s_curve_dot (Qha ha.1) (Qha ha.2.1) (Qha hb.1) (Qha hb.2.1)) hc

def okT (s : Spk) : Prop := okS s /\ ¬ (s.u = 0 /\ s.w = 0) /\ 1 <= s.r
theorem midD_nz {a b : Spk} (ha : ¬ (a.u = 0 /\ a.w = 0)) (hb : ¬ (b.u = 0 /\ b.w = 0)) {dir : Int} (hd : dir = 1 \/ dir = -1) (full : Bool) : ¬ ((midD a b dir full).1 = 0 /\ (midD a b dir full).2 = 0) := by
  have hp := sq2_pos ha
  unfold sq2 at hp
  unfold midD
  split
  · simp only; omega
  · rename_i hf
    have key : 0 < dt2 a.u a.w b.u b.w -> ¬ (a.u + b.u = 0 /\ a.w + b.w = 0) := by
      intro h1 ⟨h2, h3⟩
      have e1 : b.u = -a.u := by omega
      have e2 : b.w = -a.w := by omega
      unfold dt2 at h1
      rw [e1, e2, Int.mul_neg, Int.mul_neg] at h1
      omega
    split
    · rename_i c; exact key c.1
    · split
      · rename_i c1 c2
        have := key c2
        simp only; omega
      · rename_i c1 c2
        simp only
        rintro ⟨h2, h3⟩
        have e1 : b.w = a.w /\ a.u = b.u := by rcases hd with rfl | rfl <;> omega
        unfold dt2 at c2
        rw [e1.1, <- e1.2] at c2
        omega
theorem near_nz {u w r : Int} (hu : u.natAbs <= 100000000) (hw : w.natAbs <= 100000000) (hr : 1 <= r /\ r <= 50000000) (h : ¬ (u = 0 /\ w = 0)) : ¬ (nearR u r (sq2 u w) = 0 /\ nearR w r (sq2 u w) = 0) := by
  have hp := sq2_pos h
  have h1 := sq_bd hu
  have h2 := sq_bd hw
  have h3 : sq2 u w <= 20000000000000000 := by unfold sq2; omega
  obtain ⟨q1, q2⟩ := sq2_sq u w
  have key : ∀ x : Int, x.natAbs <= 100000000 -> x * x <= sq2 u w -> nearR x r (sq2 u w) = 0 -> 4 * (x * x) <= sq2 u w := by
    intro x hx hq h0
    obtain ⟨-, -, g3⟩ := s_cncref23_Near (x := x) (r := r) (n := sq2 u w) (Nat.le_trans hx (by decide)) (by omega) (by omega) hq
    rw [h0] at g3
    obtain ⟨-, g3⟩ := g3
    have g4 : 4 * (x.natAbs * r.natAbs * (x.natAbs * r.natAbs)) <= (sq2 u w).natAbs := by
      rw [show (0 : Int).natAbs = 0 from rfl] at g3
      split at g3 <;> omega
    have e1 : x.natAbs * r.natAbs * (x.natAbs * r.natAbs) = x.natAbs * x.natAbs * (r.natAbs * r.natAbs) := by grind
    have g5 : x.natAbs * x.natAbs * 1 <= x.natAbs * x.natAbs * (r.natAbs * r.natAbs) := Nat.mul_le_mul_left _ (Nat.mul_le_mul (show 1 <= r.natAbs by omega) (show 1 <= r.natAbs by omega))
    have e2 : ((x.natAbs * x.natAbs : Nat) : Int) = x * x := Int.natAbs_mul_self
    omega
  rintro ⟨g1, g2⟩
  have k1 := key u hu q1 g1
  have k2 := key w hw q2 g2
  unfold sq2 at *
  omega
theorem midS_okT {a b : Spk} (ha : okT a) (hb : okT b) {dir : Int} (hd : dir = 1 \/ dir = -1) (full : Bool) : okT (midS a b dir full) := by
  have hn := midD_nz ha.2.1 hb.2.1 hd full
  have hbd := midD_bd ha.1 hb.1 hd full
  have h1 := ha.1.2.2.1
  have h2 := hb.1.2.2.1
  have h3 := ha.2.2
  have h4 := hb.2.2
  have hh : 1 <= hf a.r b.r /\ hf a.r b.r <= 50000000 := by unfold hf; omega
  refine ⟨midS_ok ha.1 hb.1 hd full, ?_, ?_⟩
  · unfold midS midOf
    rw [if_neg hn]
    exact near_nz hbd.1 hbd.2 hh hn
  · unfold midS midOf
    rw [if_neg hn]
    exact hh.1
theorem s_curve_Flat {r n : Int} (hr : 0 <= r /\ r <= 50000000) : m_curve_Flat [I r, I n] = some [B (decide (n <= 32 * r - 64))] := by
  unfold m_curve_Flat
  rw [mf_curve_Flat_eq, Qab (x := 8 * r) (by omega), Qab (x := 8 * r * 4) (by omega), Qab (x := 8 * r * 4 - 64) (by omega), show 8 * r * 4 - 64 = 32 * r - 64 by omega]
theorem a_curve_settled {MF MC : List AC -> Option (List AC)} {out : List (List AC)} {a b : Spk} (ha : okS a) (hb : okS b) {dir : Int} (hd : dir = 1 \/ dir = -1) (full : Bool)
    (hF : ∀ {r n : Int}, (0 <= r /\ r <= 50000000) -> MF [I r, I n] = some [B (decide (n <= 32 * r - 64))])
    (hC : MC [I a.u, I a.w, I a.r, I a.h, I b.u, I b.w, I b.r, I b.h] = some [I (crs a.u a.w b.u b.w)]) (hcb : (crs a.u a.w b.u b.w).natAbs <= 5000000000000000) :
    mf_curve_cutter_settled MF MC [.view kSpk out, I a.u, I a.w, I a.r, I a.h, I b.u, I b.w, I b.r, I b.h, B full, I dir] = some [.view kSpk out, B (decide (setS a b dir full)), I dir] := by
  have hr : 0 <= mn a.r b.r /\ mn a.r b.r <= 50000000 := by
    have h1 := ha.2.2.1
    have h2 := hb.2.2.1
    unfold mn; split <;> omega
  obtain ⟨a1, a2, -⟩ := ha
  obtain ⟨b1, b2, -⟩ := hb
  have x1 := sub_nat a1 b1
  have x2 := sub_nat a2 b2
  have q1 := sq_bd x1
  have q2 := sq_bd x2
  have e : IntKind.i64.wrap (IntKind.i64.wrap ((a.u - b.u) * (a.u - b.u)) + IntKind.i64.wrap ((a.w - b.w) * (a.w - b.w))) = sq2 (a.u - b.u) (a.w - b.w) := by
    unfold sq2
    generalize (a.u - b.u) * (a.u - b.u) = x at *
    generalize (a.w - b.w) * (a.w - b.w) = y at *
    rw [Qab (x := x) (by omega), Qab (x := y) (by omega), Qab (by omega)]
  have w11 : IntKind.i64.wrap (crs a.u a.w b.u b.w * dir) = crs a.u a.w b.u b.w * dir := by rcases hd with rfl | rfl <;> exact Qab (by omega)
  rw [mf_curve_cutter_settled_eq, wrap_nat x1 (by decide), wrap_nat x2 (by decide), e]
  cases full
  · simp only [Bool.not_false, cond_true, hC, Option.bind_some, nth_zero', Qi0, gA, jA, wA, bA, w11, hF hr, boolOf_bool]
    by_cases c : 0 < crs a.u a.w b.u b.w * dir
    · rw [Qgh (show crs a.u a.w b.u b.w * dir > 0 from c)]
      by_cases c2 : sq2 (a.u - b.u) (a.w - b.w) <= 32 * mn a.r b.r - 64
      · rw [decide_eq_true c2, decide_eq_true (show setS a b dir false from ⟨rfl, c, c2⟩)]
      · rw [decide_eq_false c2, decide_eq_false (fun h : setS a b dir false => c2 h.2.2)]
    · rw [Qcs (show ¬ crs a.u a.w b.u b.w * dir > 0 from c), decide_eq_false (fun h : setS a b dir false => c h.2.1)]
  · simp only [Bool.not_true, cond_false]
    rw [decide_eq_false (fun h : setS a b dir true => by cases h.1)]
theorem s_curve_settled {out : List (List AC)} {a b : Spk} (ha : okS a) (hb : okS b) {dir : Int} (hd : dir = 1 \/ dir = -1) (full : Bool) :
    Qd8 [.view kSpk out, I a.u, I a.w, I a.r, I a.h, I b.u, I b.w, I b.r, I b.h, B full, I dir] = some [.view kSpk out, B (decide (setS a b dir full)), I dir] :=
  a_curve_settled ha hb hd full s_curve_Flat (s_curve_cross (Qha ha.1) (Qha ha.2.1) (Qha hb.1) (Qha hb.2.1)) (dt2_bd ha.1 ha.2.1 hb.1 hb.2.1).2
theorem s_piece {dir : Int} (hd : dir = 1 \/ dir = -1) : ∀ (n k : Nat) (full : Bool) (a b : Spk) (out : List Spk), k <= 16 -> k < n -> okT a -> okT b -> out.length + 2 ^ k <= 1000000 ->
    Qfc n [.view kSpk (out.map spkR), I a.u, I a.w, I a.r, I a.h, I b.u, I b.w, I b.r, I b.h, B full, I (16 - k : Int), I dir] = some [.view kSpk ((out ++ pcsL dir k full a b).map spkR), I dir]
  | 0, k, _, _, _, _, _, hk, _, _, _ => by omega
  | n + 1, 0, full, a, b, out, _, _, ha, hb, ho => by
    show mf_curve_cutter_piece _ _ _ _ = _
    rw [mf_curve_cutter_piece_eq, Qcs (by omega), Qiv]
    · unfold pcsL
      rw [List.map_append]; rfl
    · exact Nat.ble_eq_true_of_le (by simp only [List.length_append, List.length_map, List.length_cons, List.length_nil]; omega)
  | n + 1, k + 1, full, a, b, out, hk, hn, ha, hb, ho => by
    have hm := midS_okT ha hb hd full
    have hz := midD_nz ha.2.1 hb.2.1 hd full
    have e3 : 2 ^ (k + 1) = 2 ^ k + 2 ^ k := by rw [Nat.pow_succ]; omega
    have hp : 0 < 2 ^ k := Nat.two_pow_pos _
    have l1 := (pcsL_len k false a (midS a b dir full) (dir := dir)).2
    have i1 := s_piece hd n k false a (midS a b dir full) out (by omega) (by omega) ha hm (by omega)
    have i2 := s_piece hd n k false (midS a b dir full) b (out ++ pcsL dir k false a (midS a b dir full)) (by omega) (by omega) hm hb (by rw [List.length_append]; omega)
    have e1 := s_curve_settled (out := out.map spkR) ha.1 hb.1 hd full
    have e2 := s_curve_Middle ha.1 hb.1 hd full
    rw [decide_eq_true hz] at e2
    show mf_curve_cutter_piece (Qfc n) m_curve_Middle Qd8 _ = _
    generalize Qfc n = MP at *
    generalize m_curve_Middle = MM at *
    generalize Qd8 = MS at *
    rw [mf_curve_cutter_piece_eq, Qgh (by omega), Qab (by omega), show (16 - ((k + 1 : Nat) : Int) + 1) = 16 - (k : Int) by omega]
    unfold pcsL
    generalize midS a b dir full = m at *
    generalize pcsL dir k false a m = p1 at *
    generalize pcsL dir k false m b = p2 at *
    simp only [List.cons_append, List.nil_append, spkR] at e2
    simp only [e1, e2, Option.bind_some, nth_zero', nth_1, nth_2, nth_3, nth_4, Qi0, gA, jA, wA, bA, boolOf_bool, i1, i2, rowsOf_view]
    by_cases c : setS a b dir full
    · rw [if_pos c, Qhy (by simp [c]), Qiv]
      · rw [List.map_append]; rfl
      · exact Nat.ble_eq_true_of_le (by simp only [List.length_append, List.length_map, List.length_cons, List.length_nil]; omega)
    · rw [if_neg c, Qiv (by simp [c]), cond_true, List.append_assoc]
end Go.Bm
/- the program's chords are the reference's -/
set_option maxRecDepth 100000
namespace Go.Bm

theorem end_okT {it : Itm} {p : Pt} (hc : bd 1048576 it.ce) (hp : bd 1048576 p) (hq : 64 <= sq2 (dU it p) (dW it p)) : okT (endS it p) := by
 obtain ⟨h1, h2, h3, h4⟩ := endS_sq hc hp
 have e : sq2 (dU it p * 16) (dW it p * 16) = 256 * sq2 (dU it p) (dW it p) := by unfold sq2; grind
 refine ⟨endS_ok hc hp, ?_, ?_⟩
 ·show ¬ (dU it p * 16 = 0 /\ dW it p * 16 = 0)
  rintro ⟨g1, g2⟩
  rw [show dU it p = 0 by omega, show dW it p = 0 by omega] at hq
  simp [sq2] at hq
 ·show 1 <= midR _
  obtain ⟨n, hn⟩ := Int.eq_ofNat_of_zero_le h3
  rw [hn] at h4 ⊢
  obtain ⟨r, -, r2, r3, -⟩ := s_cncref23_root (n := n) (by omega)
  rw [midR_of (isMid_nat r2 r3)]
  have : 1 <= r := by
   rcases Nat.eq_zero_or_pos r with h | h
   ·subst h; omega
   ·exact h
  split <;> omega
theorem s_mid_sqrt {n : Nat} (hn : n <= 2251799813685248) : m_wide_Sqrt [I n, I 2] = some [I (midR n), B true] := by
 obtain ⟨r, h1, h2, h3⟩ := s_wide_Sqrt (n := n) (mode := 2) (by omega) (.inr rfl)
 rw [h1, midR_of (isMid_nat h2 h3)]
 congr 3
 by_cases c : r * r + r < n
 ·rw [if_pos (.inr ⟨rfl, c⟩), if_pos c]
 ·rw [if_neg (by simp; omega), if_neg c]
theorem a_curve_Spokes {MP MQ MD ME MV : List AC -> Option (List AC)} {it : Itm} (hV : ∃ v, MV (itmR it) = some [B v] /\ (v = true ↔ Qhf it)) (h : Qhf it)
  (hE : it.kind = 3 -> ME (itmR it) = some [I (dU it it.fr * 16), I (dW it it.fr * 16), I 0, I (plH it.plane it.fr * 16), I (dU it it.to * 16), I (dW it it.to * 16), I 0, I (plH it.plane it.to * 16)])
  (hD : ∀ p : Pt, it.kind = 3 -> (p = it.fr \/ p = it.to) -> MD [I (dU it p * 16), I (dW it p * 16), I 0, I (plH it.plane p * 16), I (dU it p * 16), I (dW it p * 16), I 0, I (plH it.plane p * 16)] = some [I (sq2 (dU it p * 16) (dW it p * 16))])
  (hQ : ∀ p : Pt, it.kind = 3 -> (p = it.fr \/ p = it.to) -> MQ [I (sq2 (dU it p * 16) (dW it p * 16)), I 2] = some [I (midR (sq2 (dU it p * 16) (dW it p * 16))), B true])
  (hP : it.kind = 3 -> MP (.view kSpk [spkR (endS it it.fr)] :: spkR (endS it it.fr) ++ spkR (endS it it.to) ++ [B it.full, I 0, I it.dir]) = some [.view kSpk ((Qfw it).map spkR), I it.dir]) :
  mf_curve_Spokes MP MQ MD ME MV (itmR it) = if it.kind = 3 then some [.view kSpk ((Qfw it).map spkR), B true] else some [.view kSpk [], B false] := by
 obtain ⟨v, hv, hvv⟩ := hV
 rw [mf_curve_Spokes_eq]
 by_cases h3 : it.kind = 3
 ·have e := hE h3
  have p := hP h3
  have d1 := hD it.fr h3 (.inl rfl)
  have d2 := hD it.to h3 (.inr rfl)
  have q1 := hQ it.fr h3 (.inl rfl)
  have q2 := hQ it.to h3 (.inr rfl)
  simp only [List.cons_append, List.nil_append, endS, spkR] at p
  simp only [go_sem, hv, e, d1, d2, q1, q2, p]
  rw [if_neg (by simp [h3]), if_neg (by simp [hvv.2 h]), if_pos h3]
 ·simp only [go_sem]
  rw [if_pos h3, if_neg h3]
theorem s_curve_Spokes {it : Itm} (h : Qhf it) : m_curve_Spokes (itmR it) = if it.kind = 3 then some [.view kSpk ((Qfw it).map spkR), B true] else some [.view kSpk [], B false] := by
 have hb : it.kind = 3 -> ∀ p : Pt, (p = it.fr \/ p = it.to) -> bd 1048576 it.ce /\ bd 1048576 p := by
  intro h3 p hp
  obtain ⟨-, h1, h2, ha⟩ := h
  obtain ⟨-, -, hc, -⟩ := ha h3
  rcases hp with rfl | rfl
  ·exact ⟨hc, h1⟩
  ·exact ⟨hc, h2⟩
 refine a_curve_Spokes (s_curve_Valid it) h (fun h3 => ?_) (fun p h3 hp => ?_) (fun p h3 hp => ?_) fun h3 => ?_
 ·obtain ⟨-, h1, h2, ha⟩ := h
  obtain ⟨hp, -, hc, -⟩ := ha h3
  exact s_curve_ends hp h1 h2 hc
 ·obtain ⟨hc, hp2⟩ := hb h3 p hp
  obtain ⟨g1, g2, -⟩ := endS_sq hc hp2
  exact s_curve_dot (Nat.le_trans g1 (by decide)) (Nat.le_trans g2 (by decide)) (Nat.le_trans g1 (by decide)) (Nat.le_trans g2 (by decide))
 ·obtain ⟨hc, hp2⟩ := hb h3 p hp
  obtain ⟨-, -, g3, g4⟩ := endS_sq hc hp2
  obtain ⟨n, hn⟩ := Int.eq_ofNat_of_zero_le g3
  rw [hn] at g4 ⊢
  exact s_mid_sqrt (by omega)
 ·obtain ⟨-, h1, h2, ha⟩ := h
  obtain ⟨hp, hd, hc, t1, t2, -⟩ := ha h3
  have := s_piece hd 20 16 it.full (endS it it.fr) (endS it it.to) [endS it it.fr] (by omega) (by omega) (end_okT hc h1 t1) (end_okT hc h2 t2) (show 1 + 2 ^ 16 <= 1000000 by decide)
  exact this

theorem s_curve_Space {u w h pl : Int} (hp : isPl pl) : m_curve_Space [I u, I w, I h, I pl] = some (ptR (spP pl u w h)) := by
 show mf_curve_Space Qev _ = _
 have h1 := s_curve_axes pl
 generalize Qev = M at *
 rw [mf_curve_Space_eq]
 rcases hp with rfl | rfl | rfl
 ·have e : axI 17 = (0, 1, 2) := rfl
  rw [e] at h1
  rw [h1]; rfl
 ·have e : axI 18 = (2, 0, 1) := rfl
  rw [e] at h1
  rw [h1]; rfl
 ·have e : axI 19 = (1, 2, 0) := rfl
  rw [e] at h1
  rw [h1]; rfl
theorem set_app {α : Type} (pre rest : List α) (x z : α) : (pre ++ x :: rest).set pre.length z = (pre ++ [z]) ++ rest := by
 rw [List.set_append_right _ _ (Nat.le_refl _), Nat.sub_self]
 simp
def fillL {α : Type} (f : Nat -> α) (z : α) (n i : Nat) : List α := (List.range i).map f ++ List.replicate (n - i) z
theorem fillL_len {α : Type} (f : Nat -> α) (z : α) {n i : Nat} (h : i <= n) : (fillL f z n i).length = n := by unfold fillL; simp; omega
theorem fillL_set {α : Type} (f : Nat -> α) (z : α) {n i : Nat} (h : i < n) : (fillL f z n i).set i (f i) = fillL f z n (i + 1) := by
 unfold fillL
 have e : n - i = (n - (i + 1)) + 1 := by omega
 rw [e, List.replicate_succ]
 have := set_app ((List.range i).map f) (List.replicate (n - (i + 1)) z) z (f i)
 rw [List.length_map, List.length_range] at this
 rw [this, List.range_succ, List.map_append]
 rfl
theorem fillL_end {α : Type} (f : Nat -> α) (z : α) (n : Nat) : fillL f z n n = (List.range n).map f := by unfold fillL; simp
theorem range_get {α : Type} (l : List α) (d : α) : (List.range l.length).map (fun i => l.getD i d) = l := by
 apply List.ext_getElem
 ·simp
 ·intro i h1 h2
  simp [h2]
def spk0 : Spk := ⟨0, 0, 0, 0⟩
theorem l_ChordsC {MS MP MF MK MV : List AC -> Option (List AC)} {it : Itm} {l : List Spk} {cu cw : Int} (hl : l.length <= 65537) (hcu : cu.natAbs <= 16777216) (hcw : cw.natAbs <= 16777216) (hok : ∀ s ∈ l, okS s)
  (hS : ∀ {u w h : Int}, MS [I u, I w, I h, I it.plane] = some (ptR (spP it.plane u w h))) {f : Nat -> List AC} (hf : ∀ i, f i = ptR (spP it.plane (cu + (l.getD i spk0).u) (cw + (l.getD i spk0).w) (l.getD i spk0).h)) :
  ∀ (k i : Nat), i + k = l.length -> Qbl (Qht MS MP MF MK MV) (.view kPt (fillL f [I 0, I 0, I 0] l.length i) :: I cu :: I cw :: .view kSpk (l.map spkR) :: I l.length :: I i :: itmR it) =
   some (1, [.view kPt ((List.range l.length).map f)])
 | 0, i, hi => by
  refine Qbn ?_ (by simp)
  rw [st_curve_Chords_9_eq]
  simp only [go_sem]
  rw [if_neg (by omega), show i = l.length by omega, fillL_end]
 | k + 1, i, hi => by
  have hlt : i < l.length := by omega
  have hs : Qht MS MP MF MK MV (.view kPt (fillL f [I 0, I 0, I 0] l.length i) :: I cu :: I cw :: .view kSpk (l.map spkR) :: I l.length :: I i :: itmR it) =
    some (0, .view kPt (fillL f [I 0, I 0, I 0] l.length (i + 1)) :: I cu :: I cw :: .view kSpk (l.map spkR) :: I l.length :: I (i + 1 : Nat) :: itmR it) := by
   rw [st_curve_Chords_9_eq]
   have hr : nth [] (l.map spkR) i = spkR l[i] := nth_map _ _ _ _ hlt
   have ho := hok _ (List.getElem_mem hlt)
   have hfl := fillL_len f [I 0, I 0, I 0] (show i <= l.length by omega)
   have hfi := hf i
   rw [show l.getD i spk0 = l[i] by simp [hlt]] at hfi
   have hset := fillL_set f [I 0, I 0, I 0] hlt
   rw [hfi] at hset
   generalize l[i] = s at *
   obtain ⟨s1, s2, -⟩ := ho
   simp only [go_sem, Int.toNat_natCast, List.length_map, hr]
   rw [if_pos (by omega), if_pos (by omega), Qab (x := cu + s.u) (by omega), Qab (x := cw + s.w) (by omega), Qab (x := (i : Int) + 1) (by omega)]
   simp only [hS, go_sem, hfl]
   rw [if_pos (by omega), hset]
   rfl
  rw [Qbk hs]
  exact l_ChordsC hl hcu hcw hok hS hf k (i + 1) (by omega)
theorem chords_arc {MS MP MF MK MV : List AC -> Option (List AC)} {N : List AC -> Option (Nat × List AC)} {it : Itm} {S : List Spk} {C : List (List AC)} {f : Pt} {u w h : Int} (hv : MV (itmR it) = some [B true])
  (hK : MK (itmR it) = some [.view kSpk (S.map spkR), B true]) (hf : MF [I it.ce.x, I it.ce.y, I it.ce.z] = some (ptR f)) (hpp : MP [I f.x, I f.y, I f.z, I it.plane] = some [I u, I w, I h]) (hS : S.length <= 65537)
  (hN : N [.view kPt (List.replicate S.length [I 0, I 0, I 0]), I u, I w, .view kSpk (S.map spkR), I S.length, I 0, I it.kind, I it.block, I it.fr.x, I it.fr.y, I it.fr.z, I it.to.x, I it.to.y, I it.to.z, I it.plane, I it.ce.x, I it.ce.y, I it.ce.z, I it.dir, B it.full, I it.feed, B it.perRev, I it.side, I it.radius, I it.blend, I it.n, I it.speed, B it.on] = some (1, [.view kPt C])) :
  mf_curve_Chords MS MP MF MK MV N (itmR it) = some [.view kPt C, B true] := by
 rw [mf_curve_Chords_eq]
 simp only [go_sem, hv, hK, hf, hpp, List.length_map, Int.toNat_natCast, hN]
 rw [if_neg (by simp), if_neg (by simp), if_pos (by omega)]
theorem a_curve_Chords {MS MP MF MK MV : List AC -> Option (List AC)} {it : Itm} (hV : ∃ v, MV (itmR it) = some [B v] /\ (v = true ↔ Qhf it)) (h : Qhf it)
  (hK : MK (itmR it) = if it.kind = 3 then some [.view kSpk ((Qfw it).map spkR), B true] else some [.view kSpk [], B false])
  (hF : ∀ {p : Pt}, bd 100000000 p -> MF [I p.x, I p.y, I p.z] = some (ptR (fine p))) (hP : isPl it.plane -> ∀ {p : Pt}, MP [I p.x, I p.y, I p.z, I it.plane] = some [I (plU it.plane p), I (plW it.plane p), I (plH it.plane p)])
  (hS : isPl it.plane -> ∀ {u w h : Int}, MS [I u, I w, I h, I it.plane] = some (ptR (spP it.plane u w h))) :
  mf_curve_Chords MS MP MF MK MV (Qbl (Qht MS MP MF MK MV)) (itmR it) = some [.view kPt ((Qfv it).map ptR), B true] := by
 obtain ⟨v, hv, hvv⟩ := hV
 rw [mf_curve_Chords_eq]
 have hv1 := hvv.2 h
 subst hv1
 obtain ⟨-, h1, h2, ha⟩ := id h
 by_cases h3 : it.kind = 3
 ·obtain ⟨hp, hd, hc, -⟩ := ha h3
  rw [if_pos h3] at hK
  obtain ⟨c1, c2, c3⟩ := pl_bd (pl := it.plane) (fine_bd hc)
  have hsl := (spokesP_len it).2
  have hl := l_ChordsC (MS := MS) (MP := MP) (MF := MF) (MK := MK) (MV := MV) (it := it) (l := Qfw it) (cu := plU it.plane (fine it.ce)) (cw := plW it.plane (fine it.ce)) hsl c1 c2 (spokesP_ok h h3) (hS hp)
   (f := fun i => ptR (chPt it ((Qfw it).getD i spk0))) (fun _ => rfl) (Qfw it).length 0 (by omega)
  have hres : (List.range (Qfw it).length).map (fun i => ptR (chPt it ((Qfw it).getD i spk0))) = ((Qfw it).map (chPt it)).map ptR := by
   rw [List.map_map]
   conv => rhs; rw [<- range_get (Qfw it) spk0]
   rw [List.map_map]
   rfl
  rw [hres] at hl
  have hf0 : fillL (fun i => ptR (chPt it ((Qfw it).getD i spk0))) [I 0, I 0, I 0] (Qfw it).length 0 = List.replicate (Qfw it).length [I 0, I 0, I 0] := by unfold fillL; simp
  rw [hf0] at hl
  have hf := hF (Qcb hc (by decide))
  have hpp := @hP hp (fine it.ce)
  have := chords_arc (MS := MS) (N := Qbl (Qht MS MP MF MK MV)) hv hK hf hpp hsl hl
  rw [mf_curve_Chords_eq] at this
  unfold Qfv
  rw [if_pos h3]
  exact this
 ·rw [if_neg h3] at hK
  have f1 := hF (Qcb h1 (by decide))
  have f2 := hF (Qcb h2 (by decide))
  unfold Qfv
  rw [if_neg h3]
  simp only [go_sem, hv, hK, f1, f2]
  simp
theorem s_curve_Chords {it : Itm} (h : Qhf it) : m_curve_Chords (itmR it) = some [.view kPt ((Qfv it).map ptR), B true] :=
 a_curve_Chords (s_curve_Valid it) h (s_curve_Spokes h) s_curve_scaled (fun hp => s_curve_Plane hp) (fun hp => s_curve_Space hp)
end Go.Bm
