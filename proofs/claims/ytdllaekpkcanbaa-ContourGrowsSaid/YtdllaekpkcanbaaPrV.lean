/- which motions can be drawn: the program's answer and the reference's -/
import Derived.Test.YtdllaekpkcanbaaPrI3
import Derived.Test.YtdllaekpkcanbaaMx1
set_option linter.unusedVariables false
set_option linter.unusedSimpArgs false
set_option maxRecDepth 100000
namespace Go.Bm

instance (pl : Int) : Decidable (isPl pl) := by unfold isPl; infer_instance
instance (A : Nat) (p : Pt) : Decidable (bd A p) := by unfold bd; infer_instance
/-- the ends of an arc, seen from its center -/
def dU (it : Itm) (p : Pt) : Int := plU it.plane p - plU it.plane it.ce
def dW (it : Itm) (p : Pt) : Int := plW it.plane p - plW it.plane it.ce
def sq2 (u w : Int) : Int := u * u + w * w
def crs (u w x y : Int) : Int := u * y - w * x
def dt2 (u w x y : Int) : Int := u * x + w * y
def qA (it : Itm) : Int := sq2 (dU it it.fr) (dW it it.fr)
def qB (it : Itm) : Int := sq2 (dU it it.to) (dW it it.to)
def cAB (it : Itm) : Int := crs (dU it it.fr) (dW it it.fr) (dU it it.to) (dW it it.to)
def dAB (it : Itm) : Int := dt2 (dU it it.fr) (dW it it.fr) (dU it it.to) (dW it it.to)
def nearQ (X Y : Int) : Prop := X + Y - 16 ≤ 0 ∨ (X + Y - 16) * (X + Y - 16) ≤ 4 * X * Y
def turnOK (it : Itm) : Prop := 64 ≤ qA it ∧ 64 ≤ qB it ∧ nearQ (qA it) (qB it) ∧ (it.full = true → dU it it.fr = dU it it.to ∧ dW it it.fr = dW it it.to) ∧ (it.full = false → cAB it ≠ 0 ∨ dAB it < 0)
def arcOK (it : Itm) : Prop := isPl it.plane ∧ (it.dir = 1 ∨ it.dir = -1) ∧ bd 1048576 it.ce ∧ turnOK it
def validI (it : Itm) : Prop := (1 ≤ it.kind ∧ it.kind ≤ 6) ∧ bd 1048576 it.fr ∧ bd 1048576 it.to ∧ (it.kind = 3 → arcOK it)

theorem dU_bd {it : Itm} {p : Pt} {b c : Nat} (hc : bd c it.ce) (h : bd b p) : (dU it p).natAbs ≤ b + c ∧ (dW it p).natAbs ≤ b + c := by
  obtain ⟨h1, h2, h3⟩ := pl_bd (pl := it.plane) h
  obtain ⟨g1, g2, g3⟩ := pl_bd (pl := it.plane) hc
  unfold dU dW
  omega
theorem sq_nat (x : Int) {b : Nat} (h : x.natAbs ≤ b) : 0 ≤ x * x ∧ x * x ≤ ((b * b : Nat) : Int) := by
  have h1 := mul_bd h h
  have h2 : 0 ≤ x * x := by rw [← Int.natAbs_mul_self]; omega
  omega
theorem sq2_bd {u w : Int} {b : Nat} (hu : u.natAbs ≤ b) (hw : w.natAbs ≤ b) : 0 ≤ sq2 u w ∧ sq2 u w ≤ ((2 * (b * b) : Nat) : Int) := by
  have h1 := sq_nat u hu
  have h2 := sq_nat w hw
  unfold sq2
  omega
theorem dt2_bd {u w x y : Int} {b c : Nat} (hu : u.natAbs ≤ b) (hw : w.natAbs ≤ b) (hx : x.natAbs ≤ c) (hy : y.natAbs ≤ c) : (dt2 u w x y).natAbs ≤ 2 * (b * c) ∧ (crs u w x y).natAbs ≤ 2 * (b * c) := by
  have h1 := mul_bd hu hx
  have h2 := mul_bd hw hy
  have h3 := mul_bd hu hy
  have h4 := mul_bd hw hx
  unfold dt2 crs
  omega
theorem near_core {X Y : Int} (hX : 64 ≤ X) (hY : 64 ≤ Y) : nearQ X Y ↔ (max X Y - min X Y - 16 ≤ 0 ∨ (max X Y - min X Y - 16) * (max X Y - min X Y - 16) ≤ 64 * min X Y) := by
  unfold nearQ
  have key : ∀ M m : Int, 64 ≤ M → 64 ≤ m → m ≤ M → ((M + m - 16 ≤ 0 ∨ (M + m - 16) * (M + m - 16) ≤ 4 * M * m) ↔ (M - m - 16 ≤ 0 ∨ (M - m - 16) * (M - m - 16) ≤ 64 * m)) := by
    intro M m h1 h2 h3
    have e : (M - m - 16) * (M - m - 16) - 64 * m = (M + m - 16) * (M + m - 16) - 4 * M * m := by grind
    by_cases hk : M - m - 16 ≤ 0
    · refine iff_of_true (.inr ?_) (.inl hk)
      have h5 : (16 - (M - m)) * (M - m + 16) ≥ 0 := Int.mul_nonneg (by omega) (by omega)
      have h6 : (M + m - 16) * (M + m - 16) - 4 * M * m = 512 - (16 - (M - m)) * (M - m + 16) - 32 * (M + m) := by grind
      omega
    · constructor
      · rintro (h | h)
        · omega
        · exact .inr (by omega)
      · rintro (h | h)
        · omega
        · exact .inr (by omega)
  by_cases h : X ≤ Y
  · rw [Int.max_eq_right h, Int.min_eq_left h, ← key Y X hY hX h]
    have e1 : X + Y - 16 = Y + X - 16 := by omega
    have e2 : 4 * X * Y = 4 * Y * X := by grind
    rw [e1, e2]
  · rw [Int.max_eq_left (by omega), Int.min_eq_right (by omega), ← key X Y hX hY (by omega)]

/-! the reference's -/
theorem s_cncref23_Motion (k : Int) : m_cncref23_Motion [I k] = some [B (decide (1 ≤ k ∧ k ≤ 6))] := by
  unfold m_cncref23_Motion
  rw [mf_cncref23_Motion_eq]
  simp only [go_sem]
  by_cases h : k ≥ 1
  · rw [if_pos h]; congr 3; simp; omega
  · rw [if_neg h]; congr 3; simp; omega
theorem a_cncref23_within {M : List AC → Option (List AC)} {p : Pt} {r : Bool} (h : M [I p.x, I p.y, I p.z, I 1048576] = some [B r]) (hr : r = true ↔ bd 1048576 p) : mf_cncref23_within M [I p.x, I p.y, I p.z] = some [B (decide (bd 1048576 p))] := by
  rw [mf_cncref23_within_eq]
  simp only [go_sem, h]
  congr 3
  rw [Bool.eq_iff_iff, hr]; simp
theorem s_cncref23_within (p : Pt) : m_cncref23_within [I p.x, I p.y, I p.z] = some [B (decide (bd 1048576 p))] := by
  obtain ⟨r, h1, h2⟩ := s_cncref23_small p 1048576 (by omega)
  exact a_cncref23_within h1 h2
theorem s_cncref23_Dot {u w r h x y s g : Int} (hu : u.natAbs ≤ 1000000000) (hw : w.natAbs ≤ 1000000000) (hx : x.natAbs ≤ 1000000000) (hy : y.natAbs ≤ 1000000000) : m_cncref23_Dot [I u, I w, I r, I h, I x, I y, I s, I g] = some [I (dt2 u w x y)] := by
  unfold m_cncref23_Dot
  rw [mf_cncref23_Dot_eq]
  have h1 := mul_bd hu hx
  have h2 := mul_bd hw hy
  unfold dt2
  rw [wrap_id (x := u * x) (by omega), wrap_id (x := w * y) (by omega), wrap_id (by omega)]
theorem s_cncref23_Cross {u w r h x y s g : Int} (hu : u.natAbs ≤ 1000000000) (hw : w.natAbs ≤ 1000000000) (hx : x.natAbs ≤ 1000000000) (hy : y.natAbs ≤ 1000000000) : m_cncref23_Cross [I u, I w, I r, I h, I x, I y, I s, I g] = some [I (crs u w x y)] := by
  unfold m_cncref23_Cross
  rw [mf_cncref23_Cross_eq]
  have h1 := mul_bd hu hy
  have h2 := mul_bd hw hx
  unfold crs
  rw [wrap_id (x := u * y) (by omega), wrap_id (x := w * x) (by omega), wrap_id (by omega)]
theorem a_cncref23_ends {M : List AC → Option (List AC)} {it : Itm} (hM : ∀ p : Pt, M [I p.x, I p.y, I p.z, I it.plane] = some [I (plU it.plane p), I (plW it.plane p), I (plH it.plane p)]) {b : Nat} (hb : b ≤ 1000000000) (h1 : bd b it.fr) (h2 : bd b it.to) (h3 : bd b it.ce) :
    mf_cncref23_ends M (itmR it) = some [I (dU it it.fr), I (dW it it.fr), I 0, I (plH it.plane it.fr), I (dU it it.to), I (dW it it.to), I 0, I (plH it.plane it.to)] := by
  rw [mf_cncref23_ends_eq]
  simp only [hM, go_sem]
  obtain ⟨q1, q2, q3⟩ := pl_bd (pl := it.plane) h1
  obtain ⟨q4, q5, q6⟩ := pl_bd (pl := it.plane) h2
  obtain ⟨q7, q8, q9⟩ := pl_bd (pl := it.plane) h3
  unfold dU dW
  rw [wrap_id (by omega), wrap_id (by omega), wrap_id (by omega), wrap_id (by omega)]
theorem s_cncref23_ends {it : Itm} (hp : isPl it.plane) {b : Nat} (hb : b ≤ 1000000000) (h1 : bd b it.fr) (h2 : bd b it.to) (h3 : bd b it.ce) :
    m_cncref23_ends (itmR it) = some [I (dU it it.fr), I (dW it it.fr), I 0, I (plH it.plane it.fr), I (dU it it.to), I (dW it it.to), I 0, I (plH it.plane it.to)] :=
  a_cncref23_ends (fun _ => s_Plane hp) hb h1 h2 h3

theorem ref_tail {X Y C D au aw bu bw : Int} {full : Bool} (hX : 0 ≤ X ∧ X ≤ 1000000000000000) (hY : 0 ≤ Y ∧ Y ≤ 1000000000000000) :
    ∃ v, (if X < 64 then some [B false] else if Y < 64 then some [B false] else if IntKind.i64.wrap (IntKind.i64.wrap (X + Y) - 16) > 0 then
      if cmpI (IntKind.i64.wrap (IntKind.i64.wrap (X + Y) - 16) * IntKind.i64.wrap (IntKind.i64.wrap (X + Y) - 16)) (IntKind.i64.wrap (4 * X) * Y) > 0 then some [B false] else if full = true then if au = bu then some [B (aw == bw)] else some [B false] else if C ≠ 0 then some [B true] else some [B (decide (D < 0))]
      else if full = true then if au = bu then some [B (aw == bw)] else some [B false] else if C ≠ 0 then some [B true] else some [B (decide (D < 0))]) = some [B v] ∧
      (v = true ↔ 64 ≤ X ∧ 64 ≤ Y ∧ nearQ X Y ∧ (full = true → au = bu ∧ aw = bw) ∧ (full = false → C ≠ 0 ∨ D < 0)) := by
  rw [wrap_id (x := X + Y) (by omega), wrap_id (x := X + Y - 16) (by omega), wrap_id (x := 4 * X) (by omega)]
  by_cases c1 : X < 64
  · rw [if_pos c1]; exact ⟨_, rfl, iff_of_false (by simp) fun h => by omega⟩
  rw [if_neg c1]
  by_cases c2 : Y < 64
  · rw [if_pos c2]; exact ⟨_, rfl, iff_of_false (by simp) fun h => by omega⟩
  rw [if_neg c2, if_pos (by omega)]
  have hn : nearQ X Y ↔ ¬ cmpI ((X + Y - 16) * (X + Y - 16)) (4 * X * Y) > 0 := by
    have := @cmpI_le ((X + Y - 16) * (X + Y - 16)) (4 * X * Y)
    unfold nearQ
    omega
  by_cases c3 : cmpI ((X + Y - 16) * (X + Y - 16)) (4 * X * Y) > 0
  · rw [if_pos c3]; exact ⟨_, rfl, iff_of_false (by simp) fun h => hn.1 h.2.2.1 c3⟩
  rw [if_neg c3]
  have hn' := hn.2 c3
  cases full with
  | true =>
    rw [if_pos rfl]
    by_cases c4 : au = bu
    · rw [if_pos c4]; refine ⟨_, rfl, ?_⟩
      simp only [beq_iff_eq]
      exact ⟨fun h => ⟨by omega, by omega, hn', fun _ => ⟨c4, h⟩, fun h => by simp at h⟩, fun h => (h.2.2.2.1 trivial).2⟩
    · rw [if_neg c4]; exact ⟨_, rfl, iff_of_false (by simp) fun h => c4 (h.2.2.2.1 rfl).1⟩
  | false =>
    rw [if_neg (by simp)]
    by_cases c4 : C ≠ 0
    · rw [if_pos c4]; exact ⟨_, rfl, iff_of_true rfl ⟨by omega, by omega, hn', fun h => by simp at h, fun _ => .inl c4⟩⟩
    · rw [if_neg c4]; refine ⟨_, rfl, ?_⟩
      simp only [decide_eq_true_eq]
      exact ⟨fun h => ⟨by omega, by omega, hn', fun h => by simp at h, fun _ => .inr h⟩, fun h => (h.2.2.2.2 trivial).resolve_left c4⟩

theorem a_cncref23_Valid {MC MX MD ME MW MM : List AC → Option (List AC)} (hM : ∀ k : Int, MM [I k] = some [B (decide (1 ≤ k ∧ k ≤ 6))]) (hW : ∀ p : Pt, MW [I p.x, I p.y, I p.z] = some [B (decide (bd 1048576 p))])
    {it : Itm} (hE : isPl it.plane → bd 1048576 it.fr → bd 1048576 it.to → bd 1048576 it.ce → ME (itmR it) = some [I (dU it it.fr), I (dW it it.fr), I 0, I (plH it.plane it.fr), I (dU it it.to), I (dW it it.to), I 0, I (plH it.plane it.to)])
    (hD : ∀ {u w r h x y s g : Int}, u.natAbs ≤ 1000000000 → w.natAbs ≤ 1000000000 → x.natAbs ≤ 1000000000 → y.natAbs ≤ 1000000000 → MD [I u, I w, I r, I h, I x, I y, I s, I g] = some [I (dt2 u w x y)])
    (hX : ∀ {u w r h x y s g : Int}, u.natAbs ≤ 1000000000 → w.natAbs ≤ 1000000000 → x.natAbs ≤ 1000000000 → y.natAbs ≤ 1000000000 → MX [I u, I w, I r, I h, I x, I y, I s, I g] = some [I (crs u w x y)])
    (hC : ∀ {a b c d : Int}, i64 a → i64 b → i64 c → i64 d → MC [I a, I b, I c, I d] = some [I (cmpI (a * b) (c * d))]) :
    ∃ v, mf_cncref23_Valid MX MC MD ME MW MM (itmR it) = some [B v] ∧ (v = true ↔ validI it) := by
  rw [mf_cncref23_Valid_eq]
  simp only [go_sem, hM, hW]
  by_cases c1 : 1 ≤ it.kind ∧ it.kind ≤ 6
  case neg => rw [if_pos (by simpa using c1)]; exact ⟨_, rfl, iff_of_false (by simp) fun h => c1 h.1⟩
  rw [if_neg (by simpa using c1)]
  by_cases c2 : bd 1048576 it.fr
  case neg => rw [if_pos (by simpa using c2)]; exact ⟨_, rfl, iff_of_false (by simp) fun h => c2 h.2.1⟩
  rw [if_neg (by simpa using c2)]
  by_cases c3 : bd 1048576 it.to
  case neg => rw [if_pos (by simpa using c3)]; exact ⟨_, rfl, iff_of_false (by simp) fun h => c3 h.2.2.1⟩
  rw [if_neg (by simpa using c3)]
  by_cases c4 : it.kind = 3
  case neg => rw [if_pos c4]; exact ⟨_, rfl, iff_of_true rfl ⟨c1, c2, c3, fun h => absurd h c4⟩⟩
  rw [if_neg (by simpa using c4)]
  by_cases c5 : isPl it.plane
  case neg =>
    unfold isPl at c5
    rw [if_pos (by omega), if_pos (by omega), if_pos (by omega)]
    exact ⟨_, rfl, iff_of_false (by simp) fun h => c5 (h.2.2.2 c4).1⟩
  by_cases c6 : it.dir = 1 ∨ it.dir = -1
  case neg =>
    rw [if_pos (c := it.dir ≠ 1) (by omega), if_pos (c := it.dir ≠ -1) (by omega)]
    refine ⟨false, ?_, iff_of_false (by simp) fun h => c6 (h.2.2.2 c4).2.1⟩
    split
    · split
      · split <;> rfl
      · rfl
    · rfl
  by_cases c7 : bd 1048576 it.ce
  case neg =>
    refine ⟨false, ?_, iff_of_false (by simp) fun h => c7 (h.2.2.2 c4).2.2.1⟩
    rcases c5 with h | h | h <;> rcases c6 with g | g <;> simp only [h, g, c7, ne_eq, Int.reduceEq, Int.reduceNeg, not_true_eq_false, not_false_eq_true, if_true, if_false]
  have hE' := hE c5 c2 c3 c7
  obtain ⟨b1, b2⟩ := dU_bd (it := it) c7 c2
  obtain ⟨b3, b4⟩ := dU_bd (it := it) c7 c3
  simp only [itmR] at hE'
  have x1 := sq2_bd b1 b2
  have x2 := sq2_bd b3 b4
  have core : validI it ↔ 64 ≤ qA it ∧ 64 ≤ qB it ∧ nearQ (qA it) (qB it) ∧ (it.full = true → dU it it.fr = dU it it.to ∧ dW it it.fr = dW it it.to) ∧ (it.full = false → cAB it ≠ 0 ∨ dAB it < 0) :=
    ⟨fun h => (h.2.2.2 c4).2.2.2, fun h => ⟨c1, c2, c3, fun _ => ⟨c5, c6, c7, h⟩⟩⟩
  rw [core]
  have e1 : dt2 (dU it it.fr) (dW it it.fr) (dU it it.fr) (dW it it.fr) = qA it := rfl
  have e2 : dt2 (dU it it.to) (dW it it.to) (dU it it.to) (dW it it.to) = qB it := rfl
  have e3 : dt2 (dU it it.fr) (dW it it.fr) (dU it it.to) (dW it it.to) = dAB it := rfl
  have e4 : crs (dU it it.fr) (dW it it.fr) (dU it it.to) (dW it it.to) = cAB it := rfl
  have x1' : 0 ≤ qA it ∧ qA it ≤ 1000000000000000 := ⟨x1.1, by unfold qA; omega⟩
  have x2' : 0 ≤ qB it ∧ qB it ≤ 1000000000000000 := ⟨x2.1, by unfold qB; omega⟩
  have hY : i64 (qB it) := by unfold i64; omega
  have D1 := @hD (dU it it.fr) (dW it it.fr) 0 (plH it.plane it.fr) (dU it it.fr) (dW it it.fr) 0 (plH it.plane it.fr) (by omega) (by omega) (by omega) (by omega)
  have D2 := @hD (dU it it.to) (dW it it.to) 0 (plH it.plane it.to) (dU it it.to) (dW it it.to) 0 (plH it.plane it.to) (by omega) (by omega) (by omega) (by omega)
  have D3 := @hD (dU it it.fr) (dW it it.fr) 0 (plH it.plane it.fr) (dU it it.to) (dW it it.to) 0 (plH it.plane it.to) (by omega) (by omega) (by omega) (by omega)
  have D4 := @hX (dU it it.fr) (dW it it.fr) 0 (plH it.plane it.fr) (dU it it.to) (dW it it.to) 0 (plH it.plane it.to) (by omega) (by omega) (by omega) (by omega)
  have D5 := @hC (IntKind.i64.wrap (IntKind.i64.wrap (qA it + qB it) - 16)) (IntKind.i64.wrap (IntKind.i64.wrap (qA it + qB it) - 16)) (IntKind.i64.wrap (4 * qA it)) (qB it) (i64_wrap _) (i64_wrap _) (i64_wrap _) hY
  rw [e1] at D1
  rw [e2] at D2
  rw [e3] at D3
  rw [e4] at D4
  have T := @ref_tail (qA it) (qB it) (cAB it) (dAB it) (dU it it.fr) (dW it it.fr) (dU it it.to) (dW it it.to) it.full x1' x2'
  have n7 : ¬ ¬ bd 1048576 it.ce := fun h => h c7
  have fin : ∀ {t : Option (List AC)}, t = (if qA it < 64 then some [B false] else if qB it < 64 then some [B false] else if IntKind.i64.wrap (IntKind.i64.wrap (qA it + qB it) - 16) > 0 then
      if cmpI (IntKind.i64.wrap (IntKind.i64.wrap (qA it + qB it) - 16) * IntKind.i64.wrap (IntKind.i64.wrap (qA it + qB it) - 16)) (IntKind.i64.wrap (4 * qA it) * qB it) > 0 then some [B false] else if it.full = true then if dU it it.fr = dU it it.to then some [B (dW it it.fr == dW it it.to)] else some [B false] else if cAB it ≠ 0 then some [B true] else some [B (decide (dAB it < 0))]
      else if it.full = true then if dU it it.fr = dU it it.to then some [B (dW it it.fr == dW it it.to)] else some [B false] else if cAB it ≠ 0 then some [B true] else some [B (decide (dAB it < 0))]) →
      ∃ v, t = some [B v] ∧ (v = true ↔ 64 ≤ qA it ∧ 64 ≤ qB it ∧ nearQ (qA it) (qB it) ∧ (it.full = true → dU it it.fr = dU it it.to ∧ dW it it.fr = dW it it.to) ∧ (it.full = false → cAB it ≠ 0 ∨ dAB it < 0)) := by
    intro t ht; rw [ht]; exact T
  have c5' : isPl it.plane := c5
  rcases c5 with h | h | h
  · rw [if_neg (c := it.plane ≠ 17) (by omega)]
    by_cases d1 : it.dir = 1
    · rw [if_neg (c := it.dir ≠ 1) (fun h => h d1), if_neg (c := ¬ bd 1048576 it.ce) n7]
      apply fin; simp only [hE', go_sem, D1, D2, D3, D4, D5]
    · rw [if_pos (c := it.dir ≠ 1) d1, if_neg (c := it.dir ≠ -1) (by omega), if_neg (c := ¬ bd 1048576 it.ce) n7]
      apply fin; simp only [hE', go_sem, D1, D2, D3, D4, D5]
  · rw [if_pos (c := it.plane ≠ 17) (by omega), if_neg (c := it.plane ≠ 18) (by omega)]
    by_cases d1 : it.dir = 1
    · rw [if_neg (c := it.dir ≠ 1) (fun h => h d1), if_neg (c := ¬ bd 1048576 it.ce) n7]
      apply fin; simp only [hE', go_sem, D1, D2, D3, D4, D5]
    · rw [if_pos (c := it.dir ≠ 1) d1, if_neg (c := it.dir ≠ -1) (by omega), if_neg (c := ¬ bd 1048576 it.ce) n7]
      apply fin; simp only [hE', go_sem, D1, D2, D3, D4, D5]
  · rw [if_pos (c := it.plane ≠ 17) (by omega), if_pos (c := it.plane ≠ 18) (by omega), if_neg (c := it.plane ≠ 19) (by omega)]
    by_cases d1 : it.dir = 1
    · rw [if_neg (c := it.dir ≠ 1) (fun h => h d1), if_neg (c := ¬ bd 1048576 it.ce) n7]
      apply fin; simp only [hE', go_sem, D1, D2, D3, D4, D5]
    · rw [if_pos (c := it.dir ≠ 1) d1, if_neg (c := it.dir ≠ -1) (by omega), if_neg (c := ¬ bd 1048576 it.ce) n7]
      apply fin; simp only [hE', go_sem, D1, D2, D3, D4, D5]
theorem s_cncref23_Valid (it : Itm) : ∃ v, m_cncref23_Valid (itmR it) = some [B v] ∧ (v = true ↔ validI it) :=
  a_cncref23_Valid s_cncref23_Motion s_cncref23_within (fun h1 h2 h3 h4 => s_cncref23_ends h1 (by omega) h2 h3 h4) s_cncref23_Dot s_cncref23_Cross s_cncref01_Cmp
end Go.Bm
