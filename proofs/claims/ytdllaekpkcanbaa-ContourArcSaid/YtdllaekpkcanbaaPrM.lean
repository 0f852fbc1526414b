/- laid together -/
import Derived.Test.YtdllaekpkcanbaaPrI3
import Derived.Test.YtdllaekpkcanbaaMx3
set_option linter.unusedVariables false
set_option linter.unusedSimpArgs false
/- which motions can be drawn: the program's answer and the reference's -/
set_option maxRecDepth 100000
namespace Go.Bm

instance (pl : Int) : Decidable (isPl pl) := by unfold isPl; infer_instance
instance (A : Nat) (p : Pt) : Decidable (bd A p) := by unfold bd; infer_instance
def dU (it : Itm) (p : Pt) : Int := plU it.plane p - plU it.plane it.ce
def dW (it : Itm) (p : Pt) : Int := plW it.plane p - plW it.plane it.ce
def sq2 (u w : Int) : Int := u * u + w * w
def crs (u w x y : Int) : Int := u * y - w * x
def dt2 (u w x y : Int) : Int := u * x + w * y
def qA (it : Itm) : Int := sq2 (dU it it.fr) (dW it it.fr)
def qB (it : Itm) : Int := sq2 (dU it it.to) (dW it it.to)
def cAB (it : Itm) : Int := crs (dU it it.fr) (dW it it.fr) (dU it it.to) (dW it it.to)
def dAB (it : Itm) : Int := dt2 (dU it it.fr) (dW it it.fr) (dU it it.to) (dW it it.to)
def nearQ (X Y : Int) : Prop := X + Y - 16 <= 0 \/ (X + Y - 16) * (X + Y - 16) <= 4 * X * Y
def turnOK (it : Itm) : Prop := 64 <= qA it /\ 64 <= qB it /\ nearQ (qA it) (qB it) /\ (it.full = true -> dU it it.fr = dU it it.to /\ dW it it.fr = dW it it.to) /\ (it.full = false -> cAB it ≠ 0 \/ dAB it < 0)
def arcOK (it : Itm) : Prop := isPl it.plane /\ (it.dir = 1 \/ it.dir = -1) /\ bd 1048576 it.ce /\ turnOK it
def validI (it : Itm) : Prop := (1 <= it.kind /\ it.kind <= 6) /\ bd 1048576 it.fr /\ bd 1048576 it.to /\ (it.kind = 3 -> arcOK it)

theorem dU_bd {it : Itm} {p : Pt} {b c : Nat} (hc : bd c it.ce) (h : bd b p) : (dU it p).natAbs <= b + c /\ (dW it p).natAbs <= b + c := by
 obtain ⟨h1, h2, h3⟩ := pl_bd (pl := it.plane) h
 obtain ⟨g1, g2, g3⟩ := pl_bd (pl := it.plane) hc
 unfold dU dW
 omega
theorem sq_nat (x : Int) {b : Nat} (h : x.natAbs <= b) : 0 <= x * x /\ x * x <= ((b * b : Nat) : Int) := by
 have h1 := mul_bd h h
 have h2 : 0 <= x * x := by rw [<- Int.natAbs_mul_self]; omega
 omega
theorem sq2_bd {u w : Int} {b : Nat} (hu : u.natAbs <= b) (hw : w.natAbs <= b) : 0 <= sq2 u w /\ sq2 u w <= ((2 * (b * b) : Nat) : Int) := by
 have h1 := sq_nat u hu
 have h2 := sq_nat w hw
 unfold sq2
 omega
theorem dt2_bd {u w x y : Int} {b c : Nat} (hu : u.natAbs <= b) (hw : w.natAbs <= b) (hx : x.natAbs <= c) (hy : y.natAbs <= c) : (dt2 u w x y).natAbs <= 2 * (b * c) /\ (crs u w x y).natAbs <= 2 * (b * c) := by
 have h1 := mul_bd hu hx
 have h2 := mul_bd hw hy
 have h3 := mul_bd hu hy
 have h4 := mul_bd hw hx
 unfold dt2 crs
 omega
theorem near_core {X Y : Int} (hX : 64 <= X) (hY : 64 <= Y) : nearQ X Y ↔ (max X Y - min X Y - 16 <= 0 \/ (max X Y - min X Y - 16) * (max X Y - min X Y - 16) <= 64 * min X Y) := by
 unfold nearQ
 have key : ∀ M m : Int, 64 <= M -> 64 <= m -> m <= M -> ((M + m - 16 <= 0 \/ (M + m - 16) * (M + m - 16) <= 4 * M * m) ↔ (M - m - 16 <= 0 \/ (M - m - 16) * (M - m - 16) <= 64 * m)) := by
  intro M m h1 h2 h3
  have e : (M - m - 16) * (M - m - 16) - 64 * m = (M + m - 16) * (M + m - 16) - 4 * M * m := by grind
  by_cases hk : M - m - 16 <= 0
  ·refine iff_of_true (.inr ?_) (.inl hk)
   have h5 : (16 - (M - m)) * (M - m + 16) >= 0 := Int.mul_nonneg (by omega) (by omega)
   have h6 : (M + m - 16) * (M + m - 16) - 4 * M * m = 512 - (16 - (M - m)) * (M - m + 16) - 32 * (M + m) := by grind
   omega
  ·constructor
   ·rintro (h | h)
    ·omega
    ·exact .inr (by omega)
   ·rintro (h | h)
    ·omega
    ·exact .inr (by omega)
 by_cases h : X <= Y
 ·rw [Int.max_eq_right h, Int.min_eq_left h, <- key Y X hY hX h]
  have e1 : X + Y - 16 = Y + X - 16 := by omega
  have e2 : 4 * X * Y = 4 * Y * X := by grind
  rw [e1, e2]
 ·rw [Int.max_eq_left (by omega), Int.min_eq_right (by omega), <- key X Y hX hY (by omega)]

theorem s_cncref23_Motion (k : Int) : m_cncref23_Motion [I k] = some [B (decide (1 <= k /\ k <= 6))] := by
 unfold m_cncref23_Motion
 rw [mf_cncref23_Motion_eq]
 simp only [go_sem]
 by_cases h : k >= 1
 ·rw [if_pos h]; congr 3; simp; omega
 ·rw [if_neg h]; congr 3; simp; omega
theorem a_cncref23_within {M : List AC -> Option (List AC)} {p : Pt} {r : Bool} (h : M [I p.x, I p.y, I p.z, I 1048576] = some [B r]) (hr : r = true ↔ bd 1048576 p) : mf_cncref23_within M [I p.x, I p.y, I p.z] = some [B (decide (bd 1048576 p))] := by
 rw [mf_cncref23_within_eq]
 simp only [go_sem, h]
 congr 3
 rw [Bool.eq_iff_iff, hr]; simp
theorem s_cncref23_within (p : Pt) : m_cncref23_within [I p.x, I p.y, I p.z] = some [B (decide (bd 1048576 p))] := by
 obtain ⟨r, h1, h2⟩ := s_cncref23_small p 1048576 (by omega)
 exact a_cncref23_within h1 h2
theorem s_cncref23_Dot {u w r h x y s g : Int} (hu : u.natAbs <= 1000000000) (hw : w.natAbs <= 1000000000) (hx : x.natAbs <= 1000000000) (hy : y.natAbs <= 1000000000) : m_cncref23_Dot [I u, I w, I r, I h, I x, I y, I s, I g] = some [I (dt2 u w x y)] := by
 unfold m_cncref23_Dot
 rw [mf_cncref23_Dot_eq]
 have h1 := mul_bd hu hx
 have h2 := mul_bd hw hy
 unfold dt2
 rw [wrap_id (x := u * x) (by omega), wrap_id (x := w * y) (by omega), wrap_id (by omega)]
theorem s_cncref23_Cross {u w r h x y s g : Int} (hu : u.natAbs <= 1000000000) (hw : w.natAbs <= 1000000000) (hx : x.natAbs <= 1000000000) (hy : y.natAbs <= 1000000000) : m_cncref23_Cross [I u, I w, I r, I h, I x, I y, I s, I g] = some [I (crs u w x y)] := by
 unfold m_cncref23_Cross
 rw [mf_cncref23_Cross_eq]
 have h1 := mul_bd hu hy
 have h2 := mul_bd hw hx
 unfold crs
 rw [wrap_id (x := u * y) (by omega), wrap_id (x := w * x) (by omega), wrap_id (by omega)]
theorem a_cncref23_ends {M : List AC -> Option (List AC)} {it : Itm} (hM : ∀ p : Pt, M [I p.x, I p.y, I p.z, I it.plane] = some [I (plU it.plane p), I (plW it.plane p), I (plH it.plane p)]) {b : Nat} (hb : b <= 1000000000) (h1 : bd b it.fr) (h2 : bd b it.to) (h3 : bd b it.ce) :
  mf_cncref23_ends M (itmR it) = some [I (dU it it.fr), I (dW it it.fr), I 0, I (plH it.plane it.fr), I (dU it it.to), I (dW it it.to), I 0, I (plH it.plane it.to)] := by
 rw [mf_cncref23_ends_eq]
 simp only [hM, go_sem]
 obtain ⟨q1, q2, q3⟩ := pl_bd (pl := it.plane) h1
 obtain ⟨q4, q5, q6⟩ := pl_bd (pl := it.plane) h2
 obtain ⟨q7, q8, q9⟩ := pl_bd (pl := it.plane) h3
 unfold dU dW
 rw [wrap_id (by omega), wrap_id (by omega), wrap_id (by omega), wrap_id (by omega)]
theorem s_cncref23_ends {it : Itm} (hp : isPl it.plane) {b : Nat} (hb : b <= 1000000000) (h1 : bd b it.fr) (h2 : bd b it.to) (h3 : bd b it.ce) :
  m_cncref23_ends (itmR it) = some [I (dU it it.fr), I (dW it it.fr), I 0, I (plH it.plane it.fr), I (dU it it.to), I (dW it it.to), I 0, I (plH it.plane it.to)] :=
 a_cncref23_ends (fun _ => s_Plane hp) hb h1 h2 h3

theorem ref_tail {X Y C D au aw bu bw : Int} {full : Bool} (hX : 0 <= X /\ X <= 1000000000000000) (hY : 0 <= Y /\ Y <= 1000000000000000) :
  ∃ v, (if X < 64 then some [B false] else if Y < 64 then some [B false] else if IntKind.i64.wrap (IntKind.i64.wrap (X + Y) - 16) > 0 then
   if cmpI (IntKind.i64.wrap (IntKind.i64.wrap (X + Y) - 16) * IntKind.i64.wrap (IntKind.i64.wrap (X + Y) - 16)) (IntKind.i64.wrap (4 * X) * Y) > 0 then some [B false] else if full = true then if au = bu then some [B (aw == bw)] else some [B false] else if C ≠ 0 then some [B true] else some [B (decide (D < 0))]
   else if full = true then if au = bu then some [B (aw == bw)] else some [B false] else if C ≠ 0 then some [B true] else some [B (decide (D < 0))]) = some [B v] /\
   (v = true ↔ 64 <= X /\ 64 <= Y /\ nearQ X Y /\ (full = true -> au = bu /\ aw = bw) /\ (full = false -> C ≠ 0 \/ D < 0)) := by
 rw [wrap_id (x := X + Y) (by omega), wrap_id (x := X + Y - 16) (by omega), wrap_id (x := 4 * X) (by omega)]
 by_cases c1 : X < 64
 ·rw [if_pos c1]; exact ⟨_, rfl, iff_of_false (by simp) fun h => by omega⟩
 rw [if_neg c1]
 by_cases c2 : Y < 64
 ·rw [if_pos c2]; exact ⟨_, rfl, iff_of_false (by simp) fun h => by omega⟩
 rw [if_neg c2, if_pos (by omega)]
 have hn : nearQ X Y ↔ ¬ cmpI ((X + Y - 16) * (X + Y - 16)) (4 * X * Y) > 0 := by
  have := @cmpI_le ((X + Y - 16) * (X + Y - 16)) (4 * X * Y)
  unfold nearQ
  omega
 by_cases c3 : cmpI ((X + Y - 16) * (X + Y - 16)) (4 * X * Y) > 0
 ·rw [if_pos c3]; exact ⟨_, rfl, iff_of_false (by simp) fun h => hn.1 h.2.2.1 c3⟩
 rw [if_neg c3]
 have hn' := hn.2 c3
 cases full with
 | true =>
  rw [if_pos rfl]
  by_cases c4 : au = bu
  ·rw [if_pos c4]; refine ⟨_, rfl, ?_⟩
   simp only [beq_iff_eq]
   exact ⟨fun h => ⟨by omega, by omega, hn', fun _ => ⟨c4, h⟩, fun h => by simp at h⟩, fun h => (h.2.2.2.1 trivial).2⟩
  ·rw [if_neg c4]; exact ⟨_, rfl, iff_of_false (by simp) fun h => c4 (h.2.2.2.1 rfl).1⟩
 | false =>
  rw [if_neg (by simp)]
  by_cases c4 : C ≠ 0
  ·rw [if_pos c4]; exact ⟨_, rfl, iff_of_true rfl ⟨by omega, by omega, hn', fun h => by simp at h, fun _ => .inl c4⟩⟩
  ·rw [if_neg c4]; refine ⟨_, rfl, ?_⟩
   simp only [decide_eq_true_eq]
   exact ⟨fun h => ⟨by omega, by omega, hn', fun h => by simp at h, fun _ => .inr h⟩, fun h => (h.2.2.2.2 trivial).resolve_left c4⟩

theorem a_cncref23_Valid {MC MX MD ME MW MM : List AC -> Option (List AC)} (hM : ∀ k : Int, MM [I k] = some [B (decide (1 <= k /\ k <= 6))]) (hW : ∀ p : Pt, MW [I p.x, I p.y, I p.z] = some [B (decide (bd 1048576 p))])
  {it : Itm} (hE : isPl it.plane -> bd 1048576 it.fr -> bd 1048576 it.to -> bd 1048576 it.ce -> ME (itmR it) = some [I (dU it it.fr), I (dW it it.fr), I 0, I (plH it.plane it.fr), I (dU it it.to), I (dW it it.to), I 0, I (plH it.plane it.to)])
  (hD : ∀ {u w r h x y s g : Int}, u.natAbs <= 1000000000 -> w.natAbs <= 1000000000 -> x.natAbs <= 1000000000 -> y.natAbs <= 1000000000 -> MD [I u, I w, I r, I h, I x, I y, I s, I g] = some [I (dt2 u w x y)])
  (hX : ∀ {u w r h x y s g : Int}, u.natAbs <= 1000000000 -> w.natAbs <= 1000000000 -> x.natAbs <= 1000000000 -> y.natAbs <= 1000000000 -> MX [I u, I w, I r, I h, I x, I y, I s, I g] = some [I (crs u w x y)])
  (hC : ∀ {a b c d : Int}, i64 a -> i64 b -> i64 c -> i64 d -> MC [I a, I b, I c, I d] = some [I (cmpI (a * b) (c * d))]) :
  ∃ v, mf_cncref23_Valid MX MC MD ME MW MM (itmR it) = some [B v] /\ (v = true ↔ validI it) := by
 rw [mf_cncref23_Valid_eq]
 simp only [go_sem, hM, hW]
 by_cases c1 : 1 <= it.kind /\ it.kind <= 6
 case neg => rw [if_pos (by simpa using c1)]; exact ⟨_, rfl, iff_of_false (by simp) fun h => c1 h.1⟩
 rw [if_neg (by simpa using c1)]
 by_cases c2 : bd 1048576 it.fr
 case neg => rw [if_pos (by simpa using c2)]; exact ⟨_, rfl, iff_of_false (by simp) fun h => c2 h.2.1⟩
 rw [if_neg (by simpa using c2)]
 by_cases c3 : bd 1048576 it.to
 case neg => rw [if_pos (by simpa using c3)]; exact ⟨_, rfl, iff_of_false (by simp) fun h => c3 h.2.2.1⟩
 rw [if_neg (by simpa using c3)]
 by_cases c4 : it.kind = 3
 case neg => rw [if_pos c4]; exact ⟨_, rfl, iff_of_true rfl ⟨c1, c2, c3, fun h => absurd h c4⟩⟩
 rw [if_neg (by simpa using c4)]
 by_cases c5 : isPl it.plane
 case neg =>
  unfold isPl at c5
  rw [if_pos (by omega), if_pos (by omega), if_pos (by omega)]
  exact ⟨_, rfl, iff_of_false (by simp) fun h => c5 (h.2.2.2 c4).1⟩
 by_cases c6 : it.dir = 1 \/ it.dir = -1
 case neg =>
  rw [if_pos (c := it.dir ≠ 1) (by omega), if_pos (c := it.dir ≠ -1) (by omega)]
  refine ⟨false, ?_, iff_of_false (by simp) fun h => c6 (h.2.2.2 c4).2.1⟩
  split
  ·split
   ·split <;> rfl
   ·rfl
  ·rfl
 by_cases c7 : bd 1048576 it.ce
 case neg =>
  refine ⟨false, ?_, iff_of_false (by simp) fun h => c7 (h.2.2.2 c4).2.2.1⟩
  rcases c5 with h | h | h <;> rcases c6 with g | g <;> simp only [h, g, c7, ne_eq, Int.reduceEq, Int.reduceNeg, not_true_eq_false, not_false_eq_true, if_true, if_false]
 have hE' := hE c5 c2 c3 c7
 obtain ⟨b1, b2⟩ := dU_bd (it := it) c7 c2
 obtain ⟨b3, b4⟩ := dU_bd (it := it) c7 c3
 simp only [itmR] at hE'
 have x1 := sq2_bd b1 b2
 have x2 := sq2_bd b3 b4
 have core : validI it ↔ 64 <= qA it /\ 64 <= qB it /\ nearQ (qA it) (qB it) /\ (it.full = true -> dU it it.fr = dU it it.to /\ dW it it.fr = dW it it.to) /\ (it.full = false -> cAB it ≠ 0 \/ dAB it < 0) :=
  ⟨fun h => (h.2.2.2 c4).2.2.2, fun h => ⟨c1, c2, c3, fun _ => ⟨c5, c6, c7, h⟩⟩⟩
 rw [core]
 have e1 : dt2 (dU it it.fr) (dW it it.fr) (dU it it.fr) (dW it it.fr) = qA it := rfl
 have e2 : dt2 (dU it it.to) (dW it it.to) (dU it it.to) (dW it it.to) = qB it := rfl
 have e3 : dt2 (dU it it.fr) (dW it it.fr) (dU it it.to) (dW it it.to) = dAB it := rfl
 have e4 : crs (dU it it.fr) (dW it it.fr) (dU it it.to) (dW it it.to) = cAB it := rfl
 have x1' : 0 <= qA it /\ qA it <= 1000000000000000 := ⟨x1.1, by unfold qA; omega⟩
 have x2' : 0 <= qB it /\ qB it <= 1000000000000000 := ⟨x2.1, by unfold qB; omega⟩
 have hY : i64 (qB it) := by unfold i64; omega
 have D1 := @hD (dU it it.fr) (dW it it.fr) 0 (plH it.plane it.fr) (dU it it.fr) (dW it it.fr) 0 (plH it.plane it.fr) (by omega) (by omega) (by omega) (by omega)
 have D2 := @hD (dU it it.to) (dW it it.to) 0 (plH it.plane it.to) (dU it it.to) (dW it it.to) 0 (plH it.plane it.to) (by omega) (by omega) (by omega) (by omega)
 have D3 := @hD (dU it it.fr) (dW it it.fr) 0 (plH it.plane it.fr) (dU it it.to) (dW it it.to) 0 (plH it.plane it.to) (by omega) (by omega) (by omega) (by omega)
 have D4 := @hX (dU it it.fr) (dW it it.fr) 0 (plH it.plane it.fr) (dU it it.to) (dW it it.to) 0 (plH it.plane it.to) (by omega) (by omega) (by omega) (by omega)
 have D5 := @hC (IntKind.i64.wrap (IntKind.i64.wrap (qA it + qB it) - 16)) (IntKind.i64.wrap (IntKind.i64.wrap (qA it + qB it) - 16)) (IntKind.i64.wrap (4 * qA it)) (qB it) (i64_wrap _) (i64_wrap _) (i64_wrap _) hY
 rw [e1] at D1
 rw [e2] at D2
 rw [e3] at D3
 rw [e4] at D4
 have T := @ref_tail (qA it) (qB it) (cAB it) (dAB it) (dU it it.fr) (dW it it.fr) (dU it it.to) (dW it it.to) it.full x1' x2'
 have n7 : ¬ ¬ bd 1048576 it.ce := fun h => h c7
 have fin : ∀ {t : Option (List AC)}, t = (if qA it < 64 then some [B false] else if qB it < 64 then some [B false] else if IntKind.i64.wrap (IntKind.i64.wrap (qA it + qB it) - 16) > 0 then
   if cmpI (IntKind.i64.wrap (IntKind.i64.wrap (qA it + qB it) - 16) * IntKind.i64.wrap (IntKind.i64.wrap (qA it + qB it) - 16)) (IntKind.i64.wrap (4 * qA it) * qB it) > 0 then some [B false] else if it.full = true then if dU it it.fr = dU it it.to then some [B (dW it it.fr == dW it it.to)] else some [B false] else if cAB it ≠ 0 then some [B true] else some [B (decide (dAB it < 0))]
   else if it.full = true then if dU it it.fr = dU it it.to then some [B (dW it it.fr == dW it it.to)] else some [B false] else if cAB it ≠ 0 then some [B true] else some [B (decide (dAB it < 0))]) ->
   ∃ v, t = some [B v] /\ (v = true ↔ 64 <= qA it /\ 64 <= qB it /\ nearQ (qA it) (qB it) /\ (it.full = true -> dU it it.fr = dU it it.to /\ dW it it.fr = dW it it.to) /\ (it.full = false -> cAB it ≠ 0 \/ dAB it < 0)) := by
  intro t ht; rw [ht]; exact T
 have c5' : isPl it.plane := c5
 rcases c5 with h | h | h
 ·rw [if_neg (c := it.plane ≠ 17) (by omega)]
  by_cases d1 : it.dir = 1
  ·rw [if_neg (c := it.dir ≠ 1) (fun h => h d1), if_neg (c := ¬ bd 1048576 it.ce) n7]
   apply fin; simp only [hE', go_sem, D1, D2, D3, D4, D5]
  ·rw [if_pos (c := it.dir ≠ 1) d1, if_neg (c := it.dir ≠ -1) (by omega), if_neg (c := ¬ bd 1048576 it.ce) n7]
   apply fin; simp only [hE', go_sem, D1, D2, D3, D4, D5]
 ·rw [if_pos (c := it.plane ≠ 17) (by omega), if_neg (c := it.plane ≠ 18) (by omega)]
  by_cases d1 : it.dir = 1
  ·rw [if_neg (c := it.dir ≠ 1) (fun h => h d1), if_neg (c := ¬ bd 1048576 it.ce) n7]
   apply fin; simp only [hE', go_sem, D1, D2, D3, D4, D5]
  ·rw [if_pos (c := it.dir ≠ 1) d1, if_neg (c := it.dir ≠ -1) (by omega), if_neg (c := ¬ bd 1048576 it.ce) n7]
   apply fin; simp only [hE', go_sem, D1, D2, D3, D4, D5]
 ·rw [if_pos (c := it.plane ≠ 17) (by omega), if_pos (c := it.plane ≠ 18) (by omega), if_neg (c := it.plane ≠ 19) (by omega)]
  by_cases d1 : it.dir = 1
  ·rw [if_neg (c := it.dir ≠ 1) (fun h => h d1), if_neg (c := ¬ bd 1048576 it.ce) n7]
   apply fin; simp only [hE', go_sem, D1, D2, D3, D4, D5]
  ·rw [if_pos (c := it.dir ≠ 1) d1, if_neg (c := it.dir ≠ -1) (by omega), if_neg (c := ¬ bd 1048576 it.ce) n7]
   apply fin; simp only [hE', go_sem, D1, D2, D3, D4, D5]
theorem s_cncref23_Valid (it : Itm) : ∃ v, m_cncref23_Valid (itmR it) = some [B v] /\ (v = true ↔ validI it) :=
 a_cncref23_Valid s_cncref23_Motion s_cncref23_within (fun h1 h2 h3 h4 => s_cncref23_ends h1 (by omega) h2 h3 h4) s_cncref23_Dot s_cncref23_Cross s_cncref01_Cmp
end Go.Bm
/- which motions can be drawn: the program's answer -/
set_option maxRecDepth 100000
namespace Go.Bm

theorem s_curve_within (p : Pt) : m_curve_within [I p.x, I p.y, I p.z] = some [B (decide (bd 1048576 p))] := by
 unfold m_curve_within
 rw [mf_curve_within_eq]
 simp only [go_sem]
 by_cases h : bd 1048576 p
 ·obtain ⟨h1, h2, h3⟩ := h
  rw [if_neg (by omega), if_neg (by omega), if_neg (by omega), if_neg (by omega), if_neg (by omega), if_neg (by omega)]
  congr 3
  symm
  exact decide_eq_true ⟨h1, h2, h3⟩
 ·have e : decide (bd 1048576 p) = false := decide_eq_false h
  rw [e]
  unfold bd at h
  by_cases c1 : p.x < -1048576
  ·rw [if_pos c1]
  rw [if_neg c1]
  by_cases c2 : p.x > 1048576
  ·rw [if_pos c2]
  rw [if_neg c2]
  by_cases c3 : p.y < -1048576
  ·rw [if_pos c3]
  rw [if_neg c3]
  by_cases c4 : p.y > 1048576
  ·rw [if_pos c4]
  rw [if_neg c4]
  by_cases c5 : p.z < -1048576
  ·rw [if_pos c5]
  rw [if_neg c5, if_pos (by omega)]
def axI (pl : Int) : Int × Int × Int := if pl = 17 then (0, 1, 2) else if pl = 18 then (2, 0, 1) else if pl = 19 then (1, 2, 0) else (0, 0, 0)
theorem s_curve_axes (pl : Int) : m_curve_axes [I pl] = some [I (axI pl).1, I (axI pl).2.1, I (axI pl).2.2, B (decide (isPl pl))] := by
 unfold m_curve_axes
 rw [mf_curve_axes_eq]
 simp only [go_sem]
 unfold axI isPl
 by_cases h1 : pl = 17
 ·rw [if_pos h1, if_pos h1]; simp [h1]
 rw [if_neg h1, if_neg h1]
 by_cases h2 : pl = 18
 ·rw [if_pos h2, if_pos h2]; simp [h2]
 rw [if_neg h2, if_neg h2]
 by_cases h3 : pl = 19
 ·rw [if_pos h3, if_pos h3]; simp [h3]
 rw [if_neg h3, if_neg h3]; simp [h1, h2, h3]
theorem a_curve_Plane {M : List AC -> Option (List AC)} (hM : ∀ pl : Int, M [I pl] = some [I (axI pl).1, I (axI pl).2.1, I (axI pl).2.2, B (decide (isPl pl))]) {p : Pt} {pl : Int} (hp : isPl pl) :
  mf_curve_Plane M [I p.x, I p.y, I p.z, I pl] = some [I (plU pl p), I (plW pl p), I (plH pl p)] := by
 rw [mf_curve_Plane_eq]
 simp only [go_sem, hM]
 rw [if_neg (by simpa using hp)]
 rcases hp with rfl | rfl | rfl <;> rfl
theorem s_curve_Plane {p : Pt} {pl : Int} (hp : isPl pl) : m_curve_Plane [I p.x, I p.y, I p.z, I pl] = some [I (plU pl p), I (plW pl p), I (plH pl p)] := a_curve_Plane s_curve_axes hp
def fine (p : Pt) : Pt := ⟨p.x * 16, p.y * 16, p.z * 16⟩
theorem fine_bd {b : Nat} {p : Pt} (h : bd b p) : bd (b * 16) (fine p) := by
 obtain ⟨h1, h2, h3⟩ := h
 unfold fine
 exact ⟨by simp only; omega, by simp only; omega, by simp only; omega⟩
theorem pl_fine (pl : Int) (p : Pt) : plU pl (fine p) = plU pl p * 16 /\ plW pl (fine p) = plW pl p * 16 /\ plH pl (fine p) = plH pl p * 16 := by
 unfold plU plW plH fine
 refine ⟨?_, ?_, ?_⟩ <;> split <;> (try split) <;> rfl
theorem s_curve_scaled {p : Pt} (h : bd 100000000 p) : m_curve_scaled [I p.x, I p.y, I p.z] = some (ptR (fine p)) := by
 unfold m_curve_scaled
 rw [mf_curve_scaled_eq]
 obtain ⟨h1, h2, h3⟩ := h
 rw [wrap_id (by omega), wrap_id (by omega), wrap_id (by omega)]
 rfl
theorem s_Fine {p : Pt} (h : bd 100000000 p) : m_cncref23_Fine [I p.x, I p.y, I p.z] = some (ptR (fine p)) := by
 unfold m_cncref23_Fine
 rw [mf_cncref23_Fine_eq]
 obtain ⟨h1, h2, h3⟩ := h
 rw [wrap_id (by omega), wrap_id (by omega), wrap_id (by omega)]
 rfl
theorem s_curve_dot {u w r h x y s g : Int} (hu : u.natAbs <= 1000000000) (hw : w.natAbs <= 1000000000) (hx : x.natAbs <= 1000000000) (hy : y.natAbs <= 1000000000) : m_curve_dot [I u, I w, I r, I h, I x, I y, I s, I g] = some [I (dt2 u w x y)] := by
 unfold m_curve_dot
 rw [mf_curve_dot_eq]
 have h1 := mul_bd hu hx
 have h2 := mul_bd hw hy
 unfold dt2
 rw [wrap_id (x := u * x) (by omega), wrap_id (x := w * y) (by omega), wrap_id (by omega)]
theorem s_curve_cross {u w r h x y s g : Int} (hu : u.natAbs <= 1000000000) (hw : w.natAbs <= 1000000000) (hx : x.natAbs <= 1000000000) (hy : y.natAbs <= 1000000000) : m_curve_cross [I u, I w, I r, I h, I x, I y, I s, I g] = some [I (crs u w x y)] := by
 unfold m_curve_cross
 rw [mf_curve_cross_eq]
 have h1 := mul_bd hu hy
 have h2 := mul_bd hw hx
 unfold crs
 rw [wrap_id (x := u * y) (by omega), wrap_id (x := w * x) (by omega), wrap_id (by omega)]
theorem a_curve_near {M : List AC -> Option (List AC)} (hM : ∀ {a b c d : Int}, i64 a -> i64 b -> i64 c -> i64 d -> M [I a, I b, I c, I d] = some [I (cmpI (a * b) (c * d))]) {X Y : Int} (hX : 64 <= X /\ X <= 1000000000000000) (hY : 64 <= Y /\ Y <= 1000000000000000) :
  ∃ v, mf_curve_near M [I X, I Y] = some [B v] /\ (v = true ↔ nearQ X Y) := by
 rw [mf_curve_near_eq, near_core hX.1 hY.1]
 have hmx : mx X Y = max X Y := by unfold mx; rw [Int.max_def]; split <;> split <;> omega
 have hmn : mn X Y = min X Y := by unfold mn; rw [Int.min_def]; split <;> split <;> omega
 have hx1 : max X Y <= 1000000000000000 /\ 64 <= max X Y := by omega
 have hx2 : min X Y <= 1000000000000000 /\ 64 <= min X Y := by omega
 rw [hmx, hmn]
 generalize max X Y = a at *
 generalize min X Y = b at *
 simp only [go_sem]
 rw [wrap_id (x := a - b) (by omega), wrap_id (x := a - b - 16) (by omega)]
 by_cases c1 : a - b - 16 <= 0
 ·rw [if_pos c1]; exact ⟨_, rfl, iff_of_true rfl (.inl c1)⟩
 ·rw [if_neg c1, hM (by unfold i64; omega) (by unfold i64; omega) (by unfold i64; omega) (by unfold i64; omega)]
  refine ⟨_, rfl, ?_⟩
  simp only [go_sem, decide_eq_true_eq, cmpI_le]
  exact ⟨fun h => .inr h, fun h => h.resolve_left c1⟩
theorem s_curve_near {X Y : Int} (hX : 64 <= X /\ X <= 1000000000000000) (hY : 64 <= Y /\ Y <= 1000000000000000) : ∃ v, m_curve_near [I X, I Y] = some [B v] /\ (v = true ↔ nearQ X Y) := a_curve_near s_wide_Cmp hX hY

theorem a_curve_ends {MP MS : List AC -> Option (List AC)} {it : Itm} (hP : ∀ p : Pt, MP [I p.x, I p.y, I p.z, I it.plane] = some [I (plU it.plane p), I (plW it.plane p), I (plH it.plane p)]) (hS : ∀ {p : Pt}, bd 100000000 p -> MS [I p.x, I p.y, I p.z] = some (ptR (fine p)))
  (h1 : bd 1048576 it.fr) (h2 : bd 1048576 it.to) (h3 : bd 1048576 it.ce) :
  mf_curve_ends MP MS (loopC (st_curve_ends_4 MP MS)) (itmR it) = some [I (dU it it.fr * 16), I (dW it it.fr * 16), I 0, I (plH it.plane it.fr * 16), I (dU it it.to * 16), I (dW it it.to * 16), I 0, I (plH it.plane it.to * 16)] := by
 rw [mf_curve_ends_eq]
 obtain ⟨q1, q2, q3⟩ := pl_bd (pl := it.plane) h1
 obtain ⟨q4, q5, q6⟩ := pl_bd (pl := it.plane) h2
 obtain ⟨q7, q8, q9⟩ := pl_bd (pl := it.plane) h3
 simp only [hS (bd_mono h3 (by omega)), hP, go_sem]
 have w0 : IntKind.i64.wrap (0 + 1) = 1 := wrap_id (by omega)
 have w1 : IntKind.i64.wrap (1 + 1) = 2 := wrap_id (by omega)
 have f1 := pl_fine it.plane it.fr
 have f2 := pl_fine it.plane it.to
 have f3 := pl_fine it.plane it.ce
 have u1 : IntKind.i64.wrap (plU it.plane (fine it.fr) - plU it.plane (fine it.ce)) = dU it it.fr * 16 := by rw [f1.1, f3.1]; unfold dU; rw [wrap_id (by omega)]; omega
 have u2 : IntKind.i64.wrap (plW it.plane (fine it.fr) - plW it.plane (fine it.ce)) = dW it it.fr * 16 := by rw [f1.2.1, f3.2.1]; unfold dW; rw [wrap_id (by omega)]; omega
 have u3 : IntKind.i64.wrap (plU it.plane (fine it.to) - plU it.plane (fine it.ce)) = dU it it.to * 16 := by rw [f2.1, f3.1]; unfold dU; rw [wrap_id (by omega)]; omega
 have u4 : IntKind.i64.wrap (plW it.plane (fine it.to) - plW it.plane (fine it.ce)) = dW it it.to * 16 := by rw [f2.2.1, f3.2.1]; unfold dW; rw [wrap_id (by omega)]; omega
 have b1 : bd 100000000 it.fr := bd_mono h1 (by omega)
 have b2 : bd 100000000 it.to := bd_mono h2 (by omega)
 have e1 := hS b1
 have e2 := hS b2
 rw [loop_more (by rw [st_curve_ends_4_eq]; simp only [go_sem, e1, e2, hP, u1, u2, w0]; rfl), loop_more (by rw [st_curve_ends_4_eq]; simp only [go_sem, e1, e2, hP, u3, u4, w1]; rfl),
  loop_end (o := (1, _)) (by rw [st_curve_ends_4_eq]; simp only [go_sem]; rfl) (by simp)]
 simp only [go_sem, f1.2.2, f2.2.2]
theorem s_curve_ends {it : Itm} (hp : isPl it.plane) (h1 : bd 1048576 it.fr) (h2 : bd 1048576 it.to) (h3 : bd 1048576 it.ce) :
  m_curve_ends (itmR it) = some [I (dU it it.fr * 16), I (dW it it.fr * 16), I 0, I (plH it.plane it.fr * 16), I (dU it it.to * 16), I (dW it it.to * 16), I 0, I (plH it.plane it.to * 16)] :=
 a_curve_ends (fun _ => s_curve_Plane hp) s_curve_scaled h1 h2 h3

theorem cur_tail {MN : List AC -> Option (List AC)} {X Y C D au aw bu bw : Int} {full : Bool} (hX : 0 <= X /\ X <= 1000000000000000) (hY : 0 <= Y /\ Y <= 1000000000000000)
  (hN : ∀ {X Y : Int}, (64 <= X /\ X <= 1000000000000000) -> (64 <= Y /\ Y <= 1000000000000000) -> ∃ v, MN [I X, I Y] = some [B v] /\ (v = true ↔ nearQ X Y)) :
  ∃ v, (if X * 256 < IntKind.i64.wrap (128 * 128) then some [B false] else if Y * 256 < IntKind.i64.wrap (128 * 128) then some [B false] else
   (MN [I (IntKind.i64.wrap ((X * 256).tdiv 256)), I (IntKind.i64.wrap ((Y * 256).tdiv 256))]).bind fun o =>
   if ¬ boolOf (nth .dead o 0) = true then some [B false] else if full = true then if au * 16 = bu * 16 then some [B (aw * 16 == bw * 16)] else some [B false] else if C * 256 ≠ 0 then some [B true] else some [B (decide (D * 256 < 0))]) = some [B v] /\
   (v = true ↔ 64 <= X /\ 64 <= Y /\ nearQ X Y /\ (full = true -> au = bu /\ aw = bw) /\ (full = false -> C ≠ 0 \/ D < 0)) := by
 rw [wrap_id (x := 128 * 128) (by omega), Int.mul_tdiv_cancel _ (by omega), Int.mul_tdiv_cancel _ (by omega), wrap_id (x := X) (by omega), wrap_id (x := Y) (by omega)]
 by_cases c1 : X * 256 < 128 * 128
 ·rw [if_pos c1]; exact ⟨_, rfl, iff_of_false (by simp) fun h => by omega⟩
 rw [if_neg c1]
 by_cases c2 : Y * 256 < 128 * 128
 ·rw [if_pos c2]; exact ⟨_, rfl, iff_of_false (by simp) fun h => by omega⟩
 rw [if_neg c2]
 obtain ⟨v, h1, h2⟩ := hN (X := X) (Y := Y) (by omega) (by omega)
 simp only [h1, go_sem]
 by_cases c3 : v = true
 case neg => rw [if_pos c3]; exact ⟨_, rfl, iff_of_false (by simp) fun h => c3 (h2.2 h.2.2.1)⟩
 rw [if_neg (by simpa using c3)]
 have hn' := h2.1 c3
 cases full with
 | true =>
  rw [if_pos rfl]
  by_cases c4 : au * 16 = bu * 16
  ·rw [if_pos c4]; refine ⟨_, rfl, ?_⟩
   simp only [beq_iff_eq]
   exact ⟨fun h => ⟨by omega, by omega, hn', fun _ => ⟨by omega, by omega⟩, fun h => by simp at h⟩, fun h => by have := (h.2.2.2.1 trivial).2; omega⟩
  ·rw [if_neg c4]; exact ⟨_, rfl, iff_of_false (by simp) fun h => c4 (by have := (h.2.2.2.1 rfl).1; omega)⟩
 | false =>
  rw [if_neg (by simp)]
  by_cases c4 : C * 256 ≠ 0
  ·rw [if_pos c4]; exact ⟨_, rfl, iff_of_true rfl ⟨by omega, by omega, hn', fun h => by simp at h, fun _ => .inl (by omega)⟩⟩
  ·rw [if_neg c4]; refine ⟨_, rfl, ?_⟩
   simp only [decide_eq_true_eq]
   exact ⟨fun h => ⟨by omega, by omega, hn', fun h => by simp at h, fun _ => .inr (by omega)⟩, fun h => by have := (h.2.2.2.2 trivial); omega⟩
theorem dt2_16 (a b c d : Int) : dt2 (a * 16) (b * 16) (c * 16) (d * 16) = dt2 a b c d * 256 /\ crs (a * 16) (b * 16) (c * 16) (d * 16) = crs a b c d * 256 := by
 unfold dt2 crs
 constructor <;> grind
theorem a_curve_Valid {MC MN MD ME MA MW : List AC -> Option (List AC)} (hA : ∀ pl : Int, MA [I pl] = some [I (axI pl).1, I (axI pl).2.1, I (axI pl).2.2, B (decide (isPl pl))]) (hW : ∀ p : Pt, MW [I p.x, I p.y, I p.z] = some [B (decide (bd 1048576 p))])
  {it : Itm} (hE : isPl it.plane -> bd 1048576 it.fr -> bd 1048576 it.to -> bd 1048576 it.ce -> ME (itmR it) = some [I (dU it it.fr * 16), I (dW it it.fr * 16), I 0, I (plH it.plane it.fr * 16), I (dU it it.to * 16), I (dW it it.to * 16), I 0, I (plH it.plane it.to * 16)])
  (hD : ∀ {u w r h x y s g : Int}, u.natAbs <= 1000000000 -> w.natAbs <= 1000000000 -> x.natAbs <= 1000000000 -> y.natAbs <= 1000000000 -> MD [I u, I w, I r, I h, I x, I y, I s, I g] = some [I (dt2 u w x y)])
  (hX : ∀ {u w r h x y s g : Int}, u.natAbs <= 1000000000 -> w.natAbs <= 1000000000 -> x.natAbs <= 1000000000 -> y.natAbs <= 1000000000 -> MC [I u, I w, I r, I h, I x, I y, I s, I g] = some [I (crs u w x y)])
  (hN : ∀ {X Y : Int}, (64 <= X /\ X <= 1000000000000000) -> (64 <= Y /\ Y <= 1000000000000000) -> ∃ v, MN [I X, I Y] = some [B v] /\ (v = true ↔ nearQ X Y)) :
  ∃ v, mf_curve_Valid MC MN MD ME MA MW (itmR it) = some [B v] /\ (v = true ↔ validI it) := by
 rw [mf_curve_Valid_eq]
 simp only [go_sem, hW, hA]
 by_cases c1 : it.kind < 1
 ·rw [if_pos c1]; exact ⟨_, rfl, iff_of_false (by simp) fun h => by have := h.1; omega⟩
 rw [if_neg c1]
 by_cases c1' : it.kind > 6
 ·rw [if_pos c1']; exact ⟨_, rfl, iff_of_false (by simp) fun h => by have := h.1; omega⟩
 rw [if_neg c1']
 by_cases c2 : bd 1048576 it.fr
 case neg => rw [if_pos (by simpa using c2)]; exact ⟨_, rfl, iff_of_false (by simp) fun h => c2 h.2.1⟩
 rw [if_neg (by simpa using c2)]
 by_cases c3 : bd 1048576 it.to
 case neg => rw [if_pos (by simpa using c3)]; exact ⟨_, rfl, iff_of_false (by simp) fun h => c3 h.2.2.1⟩
 rw [if_neg (by simpa using c3)]
 by_cases c4 : it.kind = 3
 case neg => rw [if_pos c4]; exact ⟨_, rfl, iff_of_true rfl ⟨by omega, c2, c3, fun h => absurd h c4⟩⟩
 rw [if_neg (by simpa using c4)]
 by_cases c5 : isPl it.plane
 case neg => rw [if_pos (by simpa using c5)]; exact ⟨_, rfl, iff_of_false (by simp) fun h => c5 (h.2.2.2 c4).1⟩
 rw [if_neg (by simpa using c5)]
 by_cases c7 : bd 1048576 it.ce
 case neg =>
  refine ⟨false, ?_, iff_of_false (by simp) fun h => c7 (h.2.2.2 c4).2.2.1⟩
  split
  ·split
   ·rfl
   ·first | rfl | (rw [if_pos c7])
  ·first | rfl | (rw [if_pos c7])
 by_cases c6 : it.dir = 1 \/ it.dir = -1
 case neg =>
  rw [if_pos (c := it.dir ≠ 1) (by omega), if_pos (c := it.dir ≠ -1) (by omega)]
  exact ⟨false, rfl, iff_of_false (by simp) fun h => c6 (h.2.2.2 c4).2.1⟩
 have hE' := hE c5 c2 c3 c7
 obtain ⟨b1, b2⟩ := dU_bd (it := it) c7 c2
 obtain ⟨b3, b4⟩ := dU_bd (it := it) c7 c3
 simp only [itmR] at hE'
 have x1 := sq2_bd b1 b2
 have x2 := sq2_bd b3 b4
 have core : validI it ↔ 64 <= qA it /\ 64 <= qB it /\ nearQ (qA it) (qB it) /\ (it.full = true -> dU it it.fr = dU it it.to /\ dW it it.fr = dW it it.to) /\ (it.full = false -> cAB it ≠ 0 \/ dAB it < 0) :=
  ⟨fun h => (h.2.2.2 c4).2.2.2, fun h => ⟨by omega, c2, c3, fun _ => ⟨c5, c6, c7, h⟩⟩⟩
 rw [core]
 have x1' : 0 <= qA it /\ qA it <= 1000000000000000 := ⟨x1.1, by unfold qA; omega⟩
 have x2' : 0 <= qB it /\ qB it <= 1000000000000000 := ⟨x2.1, by unfold qB; omega⟩
 have D1 := @hD (dU it it.fr * 16) (dW it it.fr * 16) 0 (plH it.plane it.fr * 16) (dU it it.fr * 16) (dW it it.fr * 16) 0 (plH it.plane it.fr * 16) (by omega) (by omega) (by omega) (by omega)
 have D2 := @hD (dU it it.to * 16) (dW it it.to * 16) 0 (plH it.plane it.to * 16) (dU it it.to * 16) (dW it it.to * 16) 0 (plH it.plane it.to * 16) (by omega) (by omega) (by omega) (by omega)
 have D3 := @hD (dU it it.fr * 16) (dW it it.fr * 16) 0 (plH it.plane it.fr * 16) (dU it it.to * 16) (dW it it.to * 16) 0 (plH it.plane it.to * 16) (by omega) (by omega) (by omega) (by omega)
 have D4 := @hX (dU it it.fr * 16) (dW it it.fr * 16) 0 (plH it.plane it.fr * 16) (dU it it.to * 16) (dW it it.to * 16) 0 (plH it.plane it.to * 16) (by omega) (by omega) (by omega) (by omega)
 rw [(dt2_16 _ _ _ _).1] at D1 D2 D3
 rw [(dt2_16 _ _ _ _).2] at D4
 have e1 : dt2 (dU it it.fr) (dW it it.fr) (dU it it.fr) (dW it it.fr) = qA it := rfl
 have e2 : dt2 (dU it it.to) (dW it it.to) (dU it it.to) (dW it it.to) = qB it := rfl
 have e3 : dt2 (dU it it.fr) (dW it it.fr) (dU it it.to) (dW it it.to) = dAB it := rfl
 have e4 : crs (dU it it.fr) (dW it it.fr) (dU it it.to) (dW it it.to) = cAB it := rfl
 rw [e1] at D1
 rw [e2] at D2
 rw [e3] at D3
 rw [e4] at D4
 have T := @cur_tail MN (qA it) (qB it) (cAB it) (dAB it) (dU it it.fr) (dW it it.fr) (dU it it.to) (dW it it.to) it.full x1' x2' hN
 have n7 : ¬ ¬ bd 1048576 it.ce := fun h => h c7
 by_cases d1 : it.dir = 1
 ·rw [if_neg (c := it.dir ≠ 1) (fun h => h d1), if_neg n7]
  simp only [hE', go_sem, D1, D2, D3, D4]
  exact T
 ·rw [if_pos (c := it.dir ≠ 1) d1, if_neg (c := it.dir ≠ -1) (by omega), if_neg n7]
  simp only [hE', go_sem, D1, D2, D3, D4]
  exact T
theorem s_curve_Valid (it : Itm) : ∃ v, m_curve_Valid (itmR it) = some [B v] /\ (v = true ↔ validI it) :=
 a_curve_Valid s_curve_axes s_curve_within (fun h1 h2 h3 h4 => s_curve_ends h1 h2 h3 h4) s_curve_dot s_curve_cross s_curve_near

end Go.Bm
/- points near a straight line: the program's answer and the reference's are the same, from either end -/
set_option maxRecDepth 100000
namespace Go.Bm

end Go.Bm
/- points near a motion: what the program answers, that it grows with the distance, and that the ends are on it -/
set_option maxRecDepth 100000
namespace Go.Bm
theorem s_contour_scaled {p : Pt} (h : bd 100000000 p) : m_contour_scaled [I p.x, I p.y, I p.z] = some (ptR (fine p)) := by
 unfold m_contour_scaled
 rw [mf_contour_scaled_eq]
 obtain ⟨h1, h2, h3⟩ := h
 rw [wrap_id (by omega), wrap_id (by omega), wrap_id (by omega)]
 rfl

def aboveP (p q e : Int) : Prop := p - q - e * e <= 0 \/ (p - q - e * e) * (p - q - e * e) <= 4 * e * e * q
def rayP (u w x y e : Int) : Prop := 0 <= dt2 u w x y /\ crs u w x y * crs u w x y <= e * e * sq2 u w
def passedP (u w x y s t dir : Int) : Prop :=
 if crs u w x y * dir > 0 then crs u w s t * dir >= 0 /\ crs s t x y * dir >= 0
 else if crs u w x y * dir = 0 /\ dt2 u w x y < 0 then crs u w s t * dir >= 0
 else crs x y s t * dir <= 0 \/ crs s t u w * dir <= 0
theorem s_contour_dot {u w x y : Int} (hu : u.natAbs <= 1000000000) (hw : w.natAbs <= 1000000000) (hx : x.natAbs <= 1000000000) (hy : y.natAbs <= 1000000000) : m_contour_dot [I u, I w, I x, I y] = some [I (dt2 u w x y)] := by
 unfold m_contour_dot
 rw [mf_contour_dot_eq]
 have h1 := mul_bd hu hx
 have h2 := mul_bd hw hy
 unfold dt2
 rw [wrap_id (x := u * x) (by omega), wrap_id (x := w * y) (by omega), wrap_id (by omega)]
theorem s_contour_cross {u w x y : Int} (hu : u.natAbs <= 1000000000) (hw : w.natAbs <= 1000000000) (hx : x.natAbs <= 1000000000) (hy : y.natAbs <= 1000000000) : m_contour_cross [I u, I w, I x, I y] = some [I (crs u w x y)] := by
 unfold m_contour_cross
 rw [mf_contour_cross_eq]
 have h1 := mul_bd hu hy
 have h2 := mul_bd hw hx
 unfold crs
 rw [wrap_id (x := u * y) (by omega), wrap_id (x := w * x) (by omega), wrap_id (by omega)]
abbrev small9 (x : Int) : Prop := x.natAbs <= 1000000000
theorem a_contour_above {M : List AC -> Option (List AC)} (hM : ∀ {a b c d : Int}, i64 a -> i64 b -> i64 c -> i64 d -> M [I a, I b, I c, I d] = some [I (cmpI (a * b) (c * d))])
  {p q e : Int} (hp : 0 <= p /\ p <= 4000000000000000000) (hq : 0 <= q /\ q <= 4000000000000000000) (he : 0 <= e /\ e <= 32000) :
  ∃ v, mf_contour_above M [I p, I q, I e] = some [B v] /\ (v = true ↔ aboveP p q e) := by
 rw [mf_contour_above_eq]
 have h1 := sq_nat e (b := 32000) (by omega)
 have e3 : 4 * e * e = 4 * (e * e) := by rw [Int.mul_assoc]
 simp only [go_sem]
 unfold aboveP
 rw [wrap_id (x := 4 * e) (by omega), e3]
 generalize e * e = s at *
 rw [wrap_id (x := p - q) (by omega), wrap_id (x := s) (by omega), wrap_id (x := p - q - s) (by omega), wrap_id (x := 4 * s) (by omega)]
 by_cases c1 : p - q - s <= 0
 ·rw [if_pos c1]; exact ⟨_, rfl, iff_of_true rfl (.inl c1)⟩
 ·rw [if_neg c1, hM (by unfold i64; omega) (by unfold i64; omega) (by unfold i64; omega) (by unfold i64; omega)]
  refine ⟨_, rfl, ?_⟩
  simp only [go_sem, decide_eq_true_eq, cmpI_le]
  exact ⟨fun h => .inr h, fun h => h.resolve_left c1⟩
theorem s_contour_above {p q e : Int} (hp : 0 <= p /\ p <= 4000000000000000000) (hq : 0 <= q /\ q <= 4000000000000000000) (he : 0 <= e /\ e <= 32000) :
  ∃ v, m_contour_above [I p, I q, I e] = some [B v] /\ (v = true ↔ aboveP p q e) := a_contour_above s_wide_Cmp hp hq he
theorem crs_i64 {u w x y : Int} (hu : small9 u) (hw : small9 w) (hx : small9 x) (hy : small9 y) : (crs u w x y).natAbs <= 2000000000000000000 /\ (dt2 u w x y).natAbs <= 2000000000000000000 := by
 have := dt2_bd hu hw hx hy
 omega
theorem a_contour_near {MC MD MX : List AC -> Option (List AC)} (hM : ∀ {a b c d : Int}, i64 a -> i64 b -> i64 c -> i64 d -> MC [I a, I b, I c, I d] = some [I (cmpI (a * b) (c * d))])
  (hD : ∀ {u w x y : Int}, small9 u -> small9 w -> small9 x -> small9 y -> MD [I u, I w, I x, I y] = some [I (dt2 u w x y)]) (hX : ∀ {u w x y : Int}, small9 u -> small9 w -> small9 x -> small9 y -> MX [I u, I w, I x, I y] = some [I (crs u w x y)])
  {u w x y e : Int} (hu : small9 u) (hw : small9 w) (hx : small9 x) (hy : small9 y) (he : 0 <= e /\ e <= 32000) :
  ∃ v, mf_contour_near MC MD MX [I u, I w, I x, I y, I e] = some [B v] /\ (v = true ↔ rayP u w x y e) := by
 rw [mf_contour_near_eq]
 simp only [go_sem, hD hu hw hx hy, hX hu hw hx hy, hD hu hw hu hw]
 have h1 := sq_nat e (b := 32000) (by omega)
 have h2 := crs_i64 hu hw hx hy
 have h3 := crs_i64 hu hw hu hw
 have e1 : sq2 u w = dt2 u w u w := rfl
 unfold rayP
 rw [e1]
 generalize e * e = s at *
 rw [wrap_id (x := s) (by omega)]
 by_cases c1 : dt2 u w x y >= 0
 ·rw [if_pos c1, hM (by unfold i64; omega) (by unfold i64; omega) (by unfold i64; omega) (by unfold i64; omega)]
  refine ⟨_, rfl, ?_⟩
  simp only [go_sem, decide_eq_true_eq, cmpI_le]
  exact ⟨fun h => ⟨c1, h⟩, fun h => h.2⟩
 ·rw [if_neg c1]; exact ⟨_, rfl, iff_of_false (by simp) fun h => c1 h.1⟩
theorem s_contour_near {u w x y e : Int} (hu : small9 u) (hw : small9 w) (hx : small9 x) (hy : small9 y) (he : 0 <= e /\ e <= 32000) :
  ∃ v, m_contour_near [I u, I w, I x, I y, I e] = some [B v] /\ (v = true ↔ rayP u w x y e) := a_contour_near s_wide_Cmp s_contour_dot s_contour_cross hu hw hx hy he
theorem a_contour_passed {MD MX : List AC -> Option (List AC)}
  (hD : ∀ {u w x y : Int}, small9 u -> small9 w -> small9 x -> small9 y -> MD [I u, I w, I x, I y] = some [I (dt2 u w x y)]) (hX : ∀ {u w x y : Int}, small9 u -> small9 w -> small9 x -> small9 y -> MX [I u, I w, I x, I y] = some [I (crs u w x y)])
  {u w x y s t dir : Int} (hu : small9 u) (hw : small9 w) (hx : small9 x) (hy : small9 y) (hs : small9 s) (ht : small9 t) (hd : dir = 1 \/ dir = -1) :
  ∃ v, mf_contour_passed MD MX [I u, I w, I x, I y, I s, I t, I dir] = some [B v] /\ (v = true ↔ passedP u w x y s t dir) := by
 rw [mf_contour_passed_eq]
 have h1 := crs_i64 hu hw hx hy
 have h2 := crs_i64 hu hw hs ht
 have h3 := crs_i64 hs ht hx hy
 have h4 := crs_i64 hx hy hs ht
 have h5 := crs_i64 hs ht hu hw
 simp only [go_sem, hX hu hw hx hy, hX hu hw hs ht, hX hs ht hx hy, hX hx hy hs ht, hX hs ht hu hw, hD hu hw hx hy]
 have w1 : ∀ c : Int, c.natAbs <= 2000000000000000000 -> IntKind.i64.wrap (c * dir) = c * dir := fun c hc => by
  rcases hd with rfl | rfl <;> exact wrap_id (by omega)
 rw [w1 _ h1.1, w1 _ h2.1, w1 _ h3.1, w1 _ h4.1, w1 _ h5.1]
 unfold passedP
 generalize crs u w x y * dir = c1
 generalize crs u w s t * dir = c2
 generalize crs s t x y * dir = c3
 generalize crs x y s t * dir = c4
 generalize crs s t u w * dir = c5
 by_cases d1 : c1 > 0
 ·rw [if_pos d1, if_pos d1]
  by_cases d2 : c2 >= 0
  ·rw [if_pos d2]; exact ⟨_, rfl, by simp [d2]⟩
  ·rw [if_neg d2]; exact ⟨_, rfl, by simp; omega⟩
 ·rw [if_neg d1, if_neg d1]
  by_cases d2 : c1 = 0
  ·rw [if_pos d2]
   by_cases d3 : dt2 u w x y < 0
   ·rw [if_pos d3, if_pos ⟨d2, d3⟩]; exact ⟨_, rfl, by simp⟩
   ·rw [if_neg d3, if_neg (c := c1 = 0 /\ dt2 u w x y < 0) (fun h => d3 h.2)]
    by_cases d4 : c4 <= 0
    ·rw [if_pos d4]; exact ⟨_, rfl, by simp [d4]⟩
    ·rw [if_neg d4]; exact ⟨_, rfl, by simp; omega⟩
  ·rw [if_neg d2, if_neg (c := c1 = 0 /\ dt2 u w x y < 0) (fun h => d2 h.1)]
   by_cases d4 : c4 <= 0
   ·rw [if_pos d4]; exact ⟨_, rfl, by simp [d4]⟩
   ·rw [if_neg d4]; exact ⟨_, rfl, by simp; omega⟩
theorem s_contour_passed {u w x y s t dir : Int} (hu : small9 u) (hw : small9 w) (hx : small9 x) (hy : small9 y) (hs : small9 s) (ht : small9 t) (hd : dir = 1 \/ dir = -1) :
  ∃ v, m_contour_passed [I u, I w, I x, I y, I s, I t, I dir] = some [B v] /\ (v = true ↔ passedP u w x y s t dir) := a_contour_passed s_contour_dot s_contour_cross hu hw hx hy hs ht hd

def pU (it : Itm) (q : Pt) : Int := plU it.plane q - plU it.plane (fine it.ce)
def pW (it : Itm) (q : Pt) : Int := plW it.plane q - plW it.plane (fine it.ce)
def onArcP (it : Itm) (q : Pt) (e : Int) : Prop :=
 aboveP (min (sq2 (pU it (fine it.fr)) (pW it (fine it.fr))) (sq2 (pU it (fine it.to)) (pW it (fine it.to)))) (sq2 (pU it q) (pW it q)) e /\
 aboveP (sq2 (pU it q) (pW it q)) (max (sq2 (pU it (fine it.fr)) (pW it (fine it.fr))) (sq2 (pU it (fine it.to)) (pW it (fine it.to)))) e /\
 min (plH it.plane (fine it.fr)) (plH it.plane (fine it.to)) - e <= plH it.plane q /\ plH it.plane q <= max (plH it.plane (fine it.fr)) (plH it.plane (fine it.to)) + e /\
 (it.full = true \/ passedP (pU it (fine it.fr)) (pW it (fine it.fr)) (pU it (fine it.to)) (pW it (fine it.to)) (pU it q) (pW it q) it.dir \/
  rayP (pU it (fine it.fr)) (pW it (fine it.fr)) (pU it q) (pW it q) e \/ rayP (pU it (fine it.to)) (pW it (fine it.to)) (pU it q) (pW it q) e)
theorem mn_min (a b : Int) : mn a b = min a b := by unfold mn; rw [Int.min_def]; split <;> split <;> omega
theorem mx_max (a b : Int) : mx a b = max a b := by unfold mx; rw [Int.max_def]; split <;> split <;> omega
theorem two_sided {x : Int} {b : Nat} (h : x.natAbs <= b) : -(b : Int) <= x /\ x <= b := by omega
theorem nat_sided {x : Int} {b : Nat} (h : -(b : Int) <= x /\ x <= b) : x.natAbs <= b := by omega
theorem pl_two {pl : Int} {p : Pt} {b : Nat} (h : bd b p) : (-(b : Int) <= plU pl p /\ plU pl p <= b) /\ (-(b : Int) <= plW pl p /\ plW pl p <= b) /\ (-(b : Int) <= plH pl p /\ plH pl p <= b) := by
 obtain ⟨h1, h2, h3⟩ := pl_bd (pl := pl) h
 exact ⟨two_sided h1, two_sided h2, two_sided h3⟩
theorem a_contour_OnArc {MN MP MB MD ML MS MV : List AC -> Option (List AC)} {it : Itm} (hV : ∃ v, MV (itmR it) = some [B v] /\ (v = true ↔ validI it)) (hS : ∀ {p : Pt}, bd 100000000 p -> MS [I p.x, I p.y, I p.z] = some (ptR (fine p)))
  (hL : ∀ {p : Pt} {pl : Int}, isPl pl -> ML [I p.x, I p.y, I p.z, I pl] = some [I (plU pl p), I (plW pl p), I (plH pl p)])
  (hD : ∀ {u w x y : Int}, small9 u -> small9 w -> small9 x -> small9 y -> MD [I u, I w, I x, I y] = some [I (dt2 u w x y)])
  (hB : ∀ {p q e : Int}, (0 <= p /\ p <= 4000000000000000000) -> (0 <= q /\ q <= 4000000000000000000) -> (0 <= e /\ e <= 32000) -> ∃ v, MB [I p, I q, I e] = some [B v] /\ (v = true ↔ aboveP p q e))
  (hP : ∀ {u w x y s t dir : Int}, small9 u -> small9 w -> small9 x -> small9 y -> small9 s -> small9 t -> (dir = 1 \/ dir = -1) -> ∃ v, MP [I u, I w, I x, I y, I s, I t, I dir] = some [B v] /\ (v = true ↔ passedP u w x y s t dir))
  (hN : ∀ {u w x y e : Int}, small9 u -> small9 w -> small9 x -> small9 y -> (0 <= e /\ e <= 32000) -> ∃ v, MN [I u, I w, I x, I y, I e] = some [B v] /\ (v = true ↔ rayP u w x y e))
  (h3 : it.kind = 3) {q : Pt} (hq : bd 100000000 q) {e : Int} (he : 0 <= e /\ e <= 32000) :
  ∃ v, mf_contour_OnArc MN MP MB MD ML MS MV (itmR it ++ [I q.x, I q.y, I q.z, I e]) = some [B v] /\ (v = true ↔ validI it /\ onArcP it q e) := by
 obtain ⟨v0, e0, h0⟩ := hV
 simp only [List.cons_append, List.nil_append]
 rw [mf_contour_OnArc_eq]
 simp only [itmR] at e0
 simp only [go_sem, e0]
 rw [if_neg (by simpa using h3)]
 by_cases c0 : v0 = true
 case neg => rw [if_pos c0]; exact ⟨_, rfl, iff_of_false (by simp) fun h => c0 (h0.2 h.1)⟩
 rw [if_neg (by simpa using c0)]
 have hv := h0.1 c0
 obtain ⟨-, v1, v2, v3⟩ := hv
 obtain ⟨v4, v5, v6, -⟩ := v3 h3
 have f1 := fine_bd v1
 have f2 := fine_bd v2
 have f3 := fine_bd v6
 obtain ⟨g1, g2, g3⟩ := pl_two (pl := it.plane) f1
 obtain ⟨g4, g5, g6⟩ := pl_two (pl := it.plane) f2
 obtain ⟨g7, g8, g9⟩ := pl_two (pl := it.plane) f3
 obtain ⟨g10, g11, g12⟩ := pl_two (pl := it.plane) hq
 have S1 : MS [I it.fr.x, I it.fr.y, I it.fr.z] = some (ptR (fine it.fr)) := hS (bd_mono v1 (by omega))
 have S2 : MS [I it.to.x, I it.to.y, I it.to.z] = some (ptR (fine it.to)) := hS (bd_mono v2 (by omega))
 have S3 : MS [I it.ce.x, I it.ce.y, I it.ce.z] = some (ptR (fine it.ce)) := hS (bd_mono v6 (by omega))
 have L1 := @hL (fine it.fr) _ v4
 have L2 := @hL (fine it.to) _ v4
 have L3 := @hL (fine it.ce) _ v4
 have L4 := @hL q _ v4
 simp only [S1, S2, S3, go_sem, L1, L2, L3, L4]
 have hv' := h0.1 c0
 unfold onArcP pU pW
 clear S1 S2 S3 L1 L2 L3 L4 f1 f2 f3 v1 v2 v3 v6 e0 h0
 generalize plU it.plane (fine it.fr) = a1 at *
 generalize plW it.plane (fine it.fr) = a2 at *
 generalize plH it.plane (fine it.fr) = a3 at *
 generalize plU it.plane (fine it.to) = b1 at *
 generalize plW it.plane (fine it.to) = b2 at *
 generalize plH it.plane (fine it.to) = b3 at *
 generalize plU it.plane (fine it.ce) = m1 at *
 generalize plW it.plane (fine it.ce) = m2 at *
 generalize plU it.plane q = q1 at *
 generalize plW it.plane q = q2 at *
 generalize plH it.plane q = q3 at *
 rw [wrap_id (x := a1 - m1) (by omega), wrap_id (x := a2 - m2) (by omega), wrap_id (x := b1 - m1) (by omega), wrap_id (x := b2 - m2) (by omega), wrap_id (x := q1 - m1) (by omega), wrap_id (x := q2 - m2) (by omega)]
 have hw1 : IntKind.i64.wrap (min a3 b3 - e) = min a3 b3 - e := wrap_id (by omega)
 have hw2 : IntKind.i64.wrap (max a3 b3 + e) = max a3 b3 + e := wrap_id (by omega)
 have k1 : small9 (a1 - m1) /\ (a1 - m1).natAbs <= 200000000 := ⟨nat_sided (by omega), nat_sided (by omega)⟩
 have k2 : small9 (a2 - m2) /\ (a2 - m2).natAbs <= 200000000 := ⟨nat_sided (by omega), nat_sided (by omega)⟩
 have k3 : small9 (b1 - m1) /\ (b1 - m1).natAbs <= 200000000 := ⟨nat_sided (by omega), nat_sided (by omega)⟩
 have k4 : small9 (b2 - m2) /\ (b2 - m2).natAbs <= 200000000 := ⟨nat_sided (by omega), nat_sided (by omega)⟩
 have k5 : small9 (q1 - m1) /\ (q1 - m1).natAbs <= 200000000 := ⟨nat_sided (by omega), nat_sided (by omega)⟩
 have k6 : small9 (q2 - m2) /\ (q2 - m2).natAbs <= 200000000 := ⟨nat_sided (by omega), nat_sided (by omega)⟩
 generalize a1 - m1 = au at *
 generalize a2 - m2 = aw at *
 generalize b1 - m1 = bu at *
 generalize b2 - m2 = bw at *
 generalize q1 - m1 = qu at *
 generalize q2 - m2 = qw at *
 have s1 := sq2_bd k1.2 k2.2
 have s2 := sq2_bd k3.2 k4.2
 have s3 := sq2_bd k5.2 k6.2
 have D1 : MD [I au, I aw, I au, I aw] = some [I (sq2 au aw)] := hD k1.1 k2.1 k1.1 k2.1
 have D2 : MD [I bu, I bw, I bu, I bw] = some [I (sq2 bu bw)] := hD k3.1 k4.1 k3.1 k4.1
 have D3 : MD [I qu, I qw, I qu, I qw] = some [I (sq2 qu qw)] := hD k5.1 k6.1 k5.1 k6.1
 simp only [D1, D2, D3, go_sem, mn_min, mx_max, hw1, hw2]
 clear hw1 hw2 D1 D2 D3 hD
 obtain ⟨p1, i1, j1⟩ := @hP au aw bu bw qu qw it.dir k1.1 k2.1 k3.1 k4.1 k5.1 k6.1 v5
 obtain ⟨p2, i2, j2⟩ := @hN au aw qu qw e k1.1 k2.1 k5.1 k6.1 he
 obtain ⟨p3, i3, j3⟩ := @hN bu bw qu qw e k3.1 k4.1 k5.1 k6.1 he
 rw [<- j1, <- j2, <- j3]
 generalize sq2 au aw = A at *
 generalize sq2 bu bw = C at *
 generalize sq2 qu qw = Q at *
 clear k1 k2 k3 k4 k5 k6 j1 j2 j3
 obtain ⟨p4, i4, j4⟩ := @hB (min A C) Q e (by omega) (by omega) he
 obtain ⟨p5, i5, j5⟩ := @hB Q (max A C) e (by omega) (by omega) he
 rw [<- j4, <- j5]
 simp only [i1, i2, i3, i4, i5, go_sem]
 generalize min a3 b3 - e = lo
 generalize max a3 b3 + e = hi
 generalize q3 = h
 by_cases c4 : p4 = true
 case neg => rw [if_pos c4]; exact ⟨_, rfl, iff_of_false (by simp) fun h => c4 h.2.1⟩
 rw [if_neg (by simpa using c4)]
 by_cases c5 : p5 = true
 case neg => rw [if_pos c5]; exact ⟨_, rfl, iff_of_false (by simp) fun h => c5 h.2.2.1⟩
 rw [if_neg (by simpa using c5)]
 by_cases c6 : h < lo
 ·rw [if_pos c6]; exact ⟨_, rfl, iff_of_false (by simp) fun h => by have := h.2.2.2.1; omega⟩
 rw [if_neg c6]
 by_cases c7 : h > hi
 ·rw [if_pos c7]; exact ⟨_, rfl, iff_of_false (by simp) fun h => by have := h.2.2.2.2.1; omega⟩
 rw [if_neg c7]
 have hb : lo <= h /\ h <= hi := by omega
 by_cases c8 : it.full = true
 ·rw [if_pos c8]; exact ⟨_, rfl, iff_of_true rfl ⟨hv', c4, c5, hb.1, hb.2, .inl c8⟩⟩
 rw [if_neg c8]
 by_cases c9 : p1 = true
 ·rw [if_pos c9]; exact ⟨_, rfl, iff_of_true rfl ⟨hv', c4, c5, hb.1, hb.2, .inr (.inl c9)⟩⟩
 rw [if_neg c9]
 by_cases c10 : p2 = true
 ·rw [if_pos c10]; exact ⟨_, rfl, iff_of_true rfl ⟨hv', c4, c5, hb.1, hb.2, .inr (.inr (.inl c10))⟩⟩
 rw [if_neg c10]
 refine ⟨p3, rfl, fun h => ⟨hv', c4, c5, hb.1, hb.2, .inr (.inr (.inr h))⟩, fun h => ?_⟩
 rcases h.2.2.2.2.2 with h | h | h | h
 ·exact absurd h c8
 ·exact absurd h c9
 ·exact absurd h c10
 ·exact h
theorem s_contour_OnArc {it : Itm} (h3 : it.kind = 3) {q : Pt} (hq : bd 100000000 q) {e : Int} (he : 0 <= e /\ e <= 32000) :
  ∃ v, m_contour_OnArc (itmR it ++ [I q.x, I q.y, I q.z, I e]) = some [B v] /\ (v = true ↔ validI it /\ onArcP it q e) :=
 a_contour_OnArc (s_curve_Valid it) s_contour_scaled s_curve_Plane s_contour_dot s_contour_above s_contour_passed s_contour_near h3 hq he
end Go.Bm
/- what the square roots of package wide give -/
set_option maxRecDepth 100000
namespace Go.Bm

theorem half (k : Nat) : ((2 ^ (k + 1) : Nat) : Int).fdiv (2 ^ min (Int.toNat 1) IntKind.u64.bits) = ((2 ^ k : Nat) : Int) := by
 have e : (2 ^ min (Int.toNat 1) IntKind.u64.bits : Int) = 2 := rfl
 rw [e, Int.fdiv_eq_ediv_of_nonneg _ (by omega), Nat.pow_succ]
 omega
theorem half0 : (1 : Int).fdiv (2 ^ min (Int.toNat 1) IntKind.u64.bits) = 0 := rfl

end Go.Bm
/- products divided and rounded: wide.MulDiv and the reference's Rounded -/
set_option maxRecDepth 100000
namespace Go.Bm

end Go.Bm
