/- laid together -/
import Derived.Test.YtdllaekpkcanbaaGreatPrI3
import Derived.Test.YtdllaekpkcanbaaGreatPrOv
import Derived.Test.YtdllaekpkcanbaaGreatMx6
set_option linter.unusedVariables false
set_option linter.unusedSimpArgs false
/- which motions can be drawn: the program's answer and the reference's -/
set_option maxRecDepth 100000
namespace Go.Bm

instance (pl : Int) : Decidable (isPl pl) := by unfold isPl; infer_instance
instance (A : Nat) (p : Pt) : Decidable (bd A p) := by unfold bd; infer_instance
def dU (it : Itm) (p : Pt) : Int := plU it.plane p - plU it.plane it.ce
def dW (it : Itm) (p : Pt) : Int := plW it.plane p - plW it.plane it.ce
def sq2 (u w : Int) : Int := u * u + w * w
def crs (u w x y : Int) : Int := u * y - w * x
def dt2 (u w x y : Int) : Int := u * x + w * y
def qA (it : Itm) : Int := sq2 (dU it it.fr) (dW it it.fr)
def qB (it : Itm) : Int := sq2 (dU it it.to) (dW it it.to)
def cAB (it : Itm) : Int := crs (dU it it.fr) (dW it it.fr) (dU it it.to) (dW it it.to)
def dAB (it : Itm) : Int := dt2 (dU it it.fr) (dW it it.fr) (dU it it.to) (dW it it.to)
def nearQ (X Y : Int) : Prop := X + Y - 16 <= 0 \/ (X + Y - 16) * (X + Y - 16) <= 4 * X * Y
def turnOK (it : Itm) : Prop := 64 <= qA it /\ 64 <= qB it /\ nearQ (qA it) (qB it) /\ (it.full = true -> dU it it.fr = dU it it.to /\ dW it it.fr = dW it it.to) /\ (it.full = false -> cAB it ≠ 0 \/ dAB it < 0)
def arcOK (it : Itm) : Prop := isPl it.plane /\ (it.dir = 1 \/ it.dir = -1) /\ bd 1048576 it.ce /\ turnOK it
def validI (it : Itm) : Prop := (1 <= it.kind /\ it.kind <= 6) /\ bd 1048576 it.fr /\ bd 1048576 it.to /\ (it.kind = 3 -> arcOK it)

theorem dU_bd {it : Itm} {p : Pt} {b c : Nat} (hc : bd c it.ce) (h : bd b p) : (dU it p).natAbs <= b + c /\ (dW it p).natAbs <= b + c := by
 obtain ⟨h1, h2, h3⟩ := pl_bd (pl := it.plane) h
 obtain ⟨g1, g2, g3⟩ := pl_bd (pl := it.plane) hc
 unfold dU dW
 omega
theorem sq_nat (x : Int) {b : Nat} (h : x.natAbs <= b) : 0 <= x * x /\ x * x <= ((b * b : Nat) : Int) := by
 have h1 := mul_bd h h
 have h2 : 0 <= x * x := by rw [<- Int.natAbs_mul_self]; omega
 omega
theorem sq2_bd {u w : Int} {b : Nat} (hu : u.natAbs <= b) (hw : w.natAbs <= b) : 0 <= sq2 u w /\ sq2 u w <= ((2 * (b * b) : Nat) : Int) := by
 have h1 := sq_nat u hu
 have h2 := sq_nat w hw
 unfold sq2
 omega
theorem dt2_bd {u w x y : Int} {b c : Nat} (hu : u.natAbs <= b) (hw : w.natAbs <= b) (hx : x.natAbs <= c) (hy : y.natAbs <= c) : (dt2 u w x y).natAbs <= 2 * (b * c) /\ (crs u w x y).natAbs <= 2 * (b * c) := by
 have h1 := mul_bd hu hx
 have h2 := mul_bd hw hy
 have h3 := mul_bd hu hy
 have h4 := mul_bd hw hx
 unfold dt2 crs
 omega
theorem s_cncref23_Motion (k : Int) : m_cncref23_Motion [I k] = some [B (decide (1 <= k /\ k <= 6))] := by
 unfold m_cncref23_Motion
 rw [mf_cncref23_Motion_eq]
 simp only [go_sem]
 by_cases h : k >= 1
 ·rw [if_pos h]; congr 3; simp; omega
 ·rw [if_neg h]; congr 3; simp; omega
theorem a_cncref23_within {M : List AC -> Option (List AC)} {p : Pt} {r : Bool} (h : M [I p.x, I p.y, I p.z, I 1048576] = some [B r]) (hr : r = true ↔ bd 1048576 p) : mf_cncref23_within M [I p.x, I p.y, I p.z] = some [B (decide (bd 1048576 p))] := by
 rw [mf_cncref23_within_eq]
 simp only [go_sem, h]
 congr 3
 rw [Bool.eq_iff_iff, hr]; simp
theorem s_cncref23_within (p : Pt) : m_cncref23_within [I p.x, I p.y, I p.z] = some [B (decide (bd 1048576 p))] := by
 obtain ⟨r, h1, h2⟩ := s_cncref23_small p 1048576 (by omega)
 exact a_cncref23_within h1 h2
theorem s_cncref23_Dot {u w r h x y s g : Int} (hu : u.natAbs <= 1000000000) (hw : w.natAbs <= 1000000000) (hx : x.natAbs <= 1000000000) (hy : y.natAbs <= 1000000000) : m_cncref23_Dot [I u, I w, I r, I h, I x, I y, I s, I g] = some [I (dt2 u w x y)] := by
 unfold m_cncref23_Dot
 rw [mf_cncref23_Dot_eq]
 have h1 := mul_bd hu hx
 have h2 := mul_bd hw hy
 unfold dt2
 rw [wrap_id (x := u * x) (by omega), wrap_id (x := w * y) (by omega), wrap_id (by omega)]
theorem s_cncref23_Cross {u w r h x y s g : Int} (hu : u.natAbs <= 1000000000) (hw : w.natAbs <= 1000000000) (hx : x.natAbs <= 1000000000) (hy : y.natAbs <= 1000000000) : m_cncref23_Cross [I u, I w, I r, I h, I x, I y, I s, I g] = some [I (crs u w x y)] := by
 unfold m_cncref23_Cross
 rw [mf_cncref23_Cross_eq]
 have h1 := mul_bd hu hy
 have h2 := mul_bd hw hx
 unfold crs
 rw [wrap_id (x := u * y) (by omega), wrap_id (x := w * x) (by omega), wrap_id (by omega)]
theorem a_cncref23_ends {M : List AC -> Option (List AC)} {it : Itm} (hM : ∀ p : Pt, M [I p.x, I p.y, I p.z, I it.plane] = some [I (plU it.plane p), I (plW it.plane p), I (plH it.plane p)]) {b : Nat} (hb : b <= 1000000000) (h1 : bd b it.fr) (h2 : bd b it.to) (h3 : bd b it.ce) :
  mf_cncref23_ends M (itmR it) = some [I (dU it it.fr), I (dW it it.fr), I 0, I (plH it.plane it.fr), I (dU it it.to), I (dW it it.to), I 0, I (plH it.plane it.to)] := by
 rw [mf_cncref23_ends_eq]
 simp only [hM, go_sem]
 obtain ⟨q1, q2, q3⟩ := pl_bd (pl := it.plane) h1
 obtain ⟨q4, q5, q6⟩ := pl_bd (pl := it.plane) h2
 obtain ⟨q7, q8, q9⟩ := pl_bd (pl := it.plane) h3
 unfold dU dW
 rw [wrap_id (by omega), wrap_id (by omega), wrap_id (by omega), wrap_id (by omega)]
theorem s_cncref23_ends {it : Itm} (hp : isPl it.plane) {b : Nat} (hb : b <= 1000000000) (h1 : bd b it.fr) (h2 : bd b it.to) (h3 : bd b it.ce) :
  m_cncref23_ends (itmR it) = some [I (dU it it.fr), I (dW it it.fr), I 0, I (plH it.plane it.fr), I (dU it it.to), I (dW it it.to), I 0, I (plH it.plane it.to)] :=
 a_cncref23_ends (fun _ => s_Plane hp) hb h1 h2 h3

theorem ref_tail {X Y C D au aw bu bw : Int} {full : Bool} (hX : 0 <= X /\ X <= 1000000000000000) (hY : 0 <= Y /\ Y <= 1000000000000000) :
  ∃ v, (if X < 64 then some [B false] else if Y < 64 then some [B false] else if IntKind.i64.wrap (IntKind.i64.wrap (X + Y) - 16) > 0 then
   if cmpI (IntKind.i64.wrap (IntKind.i64.wrap (X + Y) - 16) * IntKind.i64.wrap (IntKind.i64.wrap (X + Y) - 16)) (IntKind.i64.wrap (4 * X) * Y) > 0 then some [B false] else if full = true then if au = bu then some [B (aw == bw)] else some [B false] else if C ≠ 0 then some [B true] else some [B (decide (D < 0))]
   else if full = true then if au = bu then some [B (aw == bw)] else some [B false] else if C ≠ 0 then some [B true] else some [B (decide (D < 0))]) = some [B v] /\
   (v = true ↔ 64 <= X /\ 64 <= Y /\ nearQ X Y /\ (full = true -> au = bu /\ aw = bw) /\ (full = false -> C ≠ 0 \/ D < 0)) := by
 rw [wrap_id (x := X + Y) (by omega), wrap_id (x := X + Y - 16) (by omega), wrap_id (x := 4 * X) (by omega)]
 by_cases c1 : X < 64
 ·rw [if_pos c1]; exact ⟨_, rfl, iff_of_false (by simp) fun h => by omega⟩
 rw [if_neg c1]
 by_cases c2 : Y < 64
 ·rw [if_pos c2]; exact ⟨_, rfl, iff_of_false (by simp) fun h => by omega⟩
 rw [if_neg c2, if_pos (by omega)]
 have hn : nearQ X Y ↔ ¬ cmpI ((X + Y - 16) * (X + Y - 16)) (4 * X * Y) > 0 := by
  have := @cmpI_le ((X + Y - 16) * (X + Y - 16)) (4 * X * Y)
  unfold nearQ
  omega
 by_cases c3 : cmpI ((X + Y - 16) * (X + Y - 16)) (4 * X * Y) > 0
 ·rw [if_pos c3]; exact ⟨_, rfl, iff_of_false (by simp) fun h => hn.1 h.2.2.1 c3⟩
 rw [if_neg c3]
 have hn' := hn.2 c3
 cases full with
 | true =>
  rw [if_pos rfl]
  by_cases c4 : au = bu
  ·rw [if_pos c4]; refine ⟨_, rfl, ?_⟩
   simp only [beq_iff_eq]
   exact ⟨fun h => ⟨by omega, by omega, hn', fun _ => ⟨c4, h⟩, fun h => by simp at h⟩, fun h => (h.2.2.2.1 trivial).2⟩
  ·rw [if_neg c4]; exact ⟨_, rfl, iff_of_false (by simp) fun h => c4 (h.2.2.2.1 rfl).1⟩
 | false =>
  rw [if_neg (by simp)]
  by_cases c4 : C ≠ 0
  ·rw [if_pos c4]; exact ⟨_, rfl, iff_of_true rfl ⟨by omega, by omega, hn', fun h => by simp at h, fun _ => .inl c4⟩⟩
  ·rw [if_neg c4]; refine ⟨_, rfl, ?_⟩
   simp only [decide_eq_true_eq]
   exact ⟨fun h => ⟨by omega, by omega, hn', fun h => by simp at h, fun _ => .inr h⟩, fun h => (h.2.2.2.2 trivial).resolve_left c4⟩

theorem a_cncref23_Valid {MC MX MD ME MW MM : List AC -> Option (List AC)} (hM : ∀ k : Int, MM [I k] = some [B (decide (1 <= k /\ k <= 6))]) (hW : ∀ p : Pt, MW [I p.x, I p.y, I p.z] = some [B (decide (bd 1048576 p))])
  {it : Itm} (hE : isPl it.plane -> bd 1048576 it.fr -> bd 1048576 it.to -> bd 1048576 it.ce -> ME (itmR it) = some [I (dU it it.fr), I (dW it it.fr), I 0, I (plH it.plane it.fr), I (dU it it.to), I (dW it it.to), I 0, I (plH it.plane it.to)])
  (hD : ∀ {u w r h x y s g : Int}, u.natAbs <= 1000000000 -> w.natAbs <= 1000000000 -> x.natAbs <= 1000000000 -> y.natAbs <= 1000000000 -> MD [I u, I w, I r, I h, I x, I y, I s, I g] = some [I (dt2 u w x y)])
  (hX : ∀ {u w r h x y s g : Int}, u.natAbs <= 1000000000 -> w.natAbs <= 1000000000 -> x.natAbs <= 1000000000 -> y.natAbs <= 1000000000 -> MX [I u, I w, I r, I h, I x, I y, I s, I g] = some [I (crs u w x y)])
  (hC : ∀ {a b c d : Int}, i64 a -> i64 b -> i64 c -> i64 d -> MC [I a, I b, I c, I d] = some [I (cmpI (a * b) (c * d))]) :
  ∃ v, mf_cncref23_Valid MX MC MD ME MW MM (itmR it) = some [B v] /\ (v = true ↔ validI it) := by
 rw [mf_cncref23_Valid_eq]
 simp only [go_sem, hM, hW]
 by_cases c1 : 1 <= it.kind /\ it.kind <= 6
 case neg => rw [if_pos (by simpa using c1)]; exact ⟨_, rfl, iff_of_false (by simp) fun h => c1 h.1⟩
 rw [if_neg (by simpa using c1)]
 by_cases c2 : bd 1048576 it.fr
 case neg => rw [if_pos (by simpa using c2)]; exact ⟨_, rfl, iff_of_false (by simp) fun h => c2 h.2.1⟩
 rw [if_neg (by simpa using c2)]
 by_cases c3 : bd 1048576 it.to
 case neg => rw [if_pos (by simpa using c3)]; exact ⟨_, rfl, iff_of_false (by simp) fun h => c3 h.2.2.1⟩
 rw [if_neg (by simpa using c3)]
 by_cases c4 : it.kind = 3
 case neg => rw [if_pos c4]; exact ⟨_, rfl, iff_of_true rfl ⟨c1, c2, c3, fun h => absurd h c4⟩⟩
 rw [if_neg (by simpa using c4)]
 by_cases c5 : isPl it.plane
 case neg =>
  unfold isPl at c5
  rw [if_pos (by omega), if_pos (by omega), if_pos (by omega)]
  exact ⟨_, rfl, iff_of_false (by simp) fun h => c5 (h.2.2.2 c4).1⟩
 by_cases c6 : it.dir = 1 \/ it.dir = -1
 case neg =>
  rw [if_pos (c := it.dir ≠ 1) (by omega), if_pos (c := it.dir ≠ -1) (by omega)]
  refine ⟨false, ?_, iff_of_false (by simp) fun h => c6 (h.2.2.2 c4).2.1⟩
  split
  ·split
   ·split <;> rfl
   ·rfl
  ·rfl
 by_cases c7 : bd 1048576 it.ce
 case neg =>
  refine ⟨false, ?_, iff_of_false (by simp) fun h => c7 (h.2.2.2 c4).2.2.1⟩
  rcases c5 with h | h | h <;> rcases c6 with g | g <;> simp only [h, g, c7, ne_eq, Int.reduceEq, Int.reduceNeg, not_true_eq_false, not_false_eq_true, if_true, if_false]
 have hE' := hE c5 c2 c3 c7
 obtain ⟨b1, b2⟩ := dU_bd (it := it) c7 c2
 obtain ⟨b3, b4⟩ := dU_bd (it := it) c7 c3
 simp only [itmR] at hE'
 have x1 := sq2_bd b1 b2
 have x2 := sq2_bd b3 b4
 have core : validI it ↔ 64 <= qA it /\ 64 <= qB it /\ nearQ (qA it) (qB it) /\ (it.full = true -> dU it it.fr = dU it it.to /\ dW it it.fr = dW it it.to) /\ (it.full = false -> cAB it ≠ 0 \/ dAB it < 0) :=
  ⟨fun h => (h.2.2.2 c4).2.2.2, fun h => ⟨c1, c2, c3, fun _ => ⟨c5, c6, c7, h⟩⟩⟩
 rw [core]
 have e1 : dt2 (dU it it.fr) (dW it it.fr) (dU it it.fr) (dW it it.fr) = qA it := rfl
 have e2 : dt2 (dU it it.to) (dW it it.to) (dU it it.to) (dW it it.to) = qB it := rfl
 have e3 : dt2 (dU it it.fr) (dW it it.fr) (dU it it.to) (dW it it.to) = dAB it := rfl
 have e4 : crs (dU it it.fr) (dW it it.fr) (dU it it.to) (dW it it.to) = cAB it := rfl
 have x1' : 0 <= qA it /\ qA it <= 1000000000000000 := ⟨x1.1, by unfold qA; omega⟩
 have x2' : 0 <= qB it /\ qB it <= 1000000000000000 := ⟨x2.1, by unfold qB; omega⟩
 have hY : i64 (qB it) := by unfold i64; omega
 have D1 := @hD (dU it it.fr) (dW it it.fr) 0 (plH it.plane it.fr) (dU it it.fr) (dW it it.fr) 0 (plH it.plane it.fr) (by omega) (by omega) (by omega) (by omega)
 have D2 := @hD (dU it it.to) (dW it it.to) 0 (plH it.plane it.to) (dU it it.to) (dW it it.to) 0 (plH it.plane it.to) (by omega) (by omega) (by omega) (by omega)
 have D3 := @hD (dU it it.fr) (dW it it.fr) 0 (plH it.plane it.fr) (dU it it.to) (dW it it.to) 0 (plH it.plane it.to) (by omega) (by omega) (by omega) (by omega)
 have D4 := @hX (dU it it.fr) (dW it it.fr) 0 (plH it.plane it.fr) (dU it it.to) (dW it it.to) 0 (plH it.plane it.to) (by omega) (by omega) (by omega) (by omega)
 have D5 := @hC (IntKind.i64.wrap (IntKind.i64.wrap (qA it + qB it) - 16)) (IntKind.i64.wrap (IntKind.i64.wrap (qA it + qB it) - 16)) (IntKind.i64.wrap (4 * qA it)) (qB it) (i64_wrap _) (i64_wrap _) (i64_wrap _) hY
 rw [e1] at D1
 rw [e2] at D2
 rw [e3] at D3
 rw [e4] at D4
 have T := @ref_tail (qA it) (qB it) (cAB it) (dAB it) (dU it it.fr) (dW it it.fr) (dU it it.to) (dW it it.to) it.full x1' x2'
 have n7 : ¬ ¬ bd 1048576 it.ce := fun h => h c7
 have fin : ∀ {t : Option (List AC)}, t = (if qA it < 64 then some [B false] else if qB it < 64 then some [B false] else if IntKind.i64.wrap (IntKind.i64.wrap (qA it + qB it) - 16) > 0 then
   if cmpI (IntKind.i64.wrap (IntKind.i64.wrap (qA it + qB it) - 16) * IntKind.i64.wrap (IntKind.i64.wrap (qA it + qB it) - 16)) (IntKind.i64.wrap (4 * qA it) * qB it) > 0 then some [B false] else if it.full = true then if dU it it.fr = dU it it.to then some [B (dW it it.fr == dW it it.to)] else some [B false] else if cAB it ≠ 0 then some [B true] else some [B (decide (dAB it < 0))]
   else if it.full = true then if dU it it.fr = dU it it.to then some [B (dW it it.fr == dW it it.to)] else some [B false] else if cAB it ≠ 0 then some [B true] else some [B (decide (dAB it < 0))]) ->
   ∃ v, t = some [B v] /\ (v = true ↔ 64 <= qA it /\ 64 <= qB it /\ nearQ (qA it) (qB it) /\ (it.full = true -> dU it it.fr = dU it it.to /\ dW it it.fr = dW it it.to) /\ (it.full = false -> cAB it ≠ 0 \/ dAB it < 0)) := by
  intro t ht; rw [ht]; exact T
 have c5' : isPl it.plane := c5
 rcases c5 with h | h | h
 ·rw [if_neg (c := it.plane ≠ 17) (by omega)]
  by_cases d1 : it.dir = 1
  ·rw [if_neg (c := it.dir ≠ 1) (fun h => h d1), if_neg (c := ¬ bd 1048576 it.ce) n7]
   apply fin; simp only [hE', go_sem, D1, D2, D3, D4, D5]
  ·rw [if_pos (c := it.dir ≠ 1) d1, if_neg (c := it.dir ≠ -1) (by omega), if_neg (c := ¬ bd 1048576 it.ce) n7]
   apply fin; simp only [hE', go_sem, D1, D2, D3, D4, D5]
 ·rw [if_pos (c := it.plane ≠ 17) (by omega), if_neg (c := it.plane ≠ 18) (by omega)]
  by_cases d1 : it.dir = 1
  ·rw [if_neg (c := it.dir ≠ 1) (fun h => h d1), if_neg (c := ¬ bd 1048576 it.ce) n7]
   apply fin; simp only [hE', go_sem, D1, D2, D3, D4, D5]
  ·rw [if_pos (c := it.dir ≠ 1) d1, if_neg (c := it.dir ≠ -1) (by omega), if_neg (c := ¬ bd 1048576 it.ce) n7]
   apply fin; simp only [hE', go_sem, D1, D2, D3, D4, D5]
 ·rw [if_pos (c := it.plane ≠ 17) (by omega), if_pos (c := it.plane ≠ 18) (by omega), if_neg (c := it.plane ≠ 19) (by omega)]
  by_cases d1 : it.dir = 1
  ·rw [if_neg (c := it.dir ≠ 1) (fun h => h d1), if_neg (c := ¬ bd 1048576 it.ce) n7]
   apply fin; simp only [hE', go_sem, D1, D2, D3, D4, D5]
  ·rw [if_pos (c := it.dir ≠ 1) d1, if_neg (c := it.dir ≠ -1) (by omega), if_neg (c := ¬ bd 1048576 it.ce) n7]
   apply fin; simp only [hE', go_sem, D1, D2, D3, D4, D5]
theorem s_cncref23_Valid (it : Itm) : ∃ v, m_cncref23_Valid (itmR it) = some [B v] /\ (v = true ↔ validI it) :=
 a_cncref23_Valid s_cncref23_Motion s_cncref23_within (fun h1 h2 h3 h4 => s_cncref23_ends h1 (by omega) h2 h3 h4) s_cncref23_Dot s_cncref23_Cross s_cncref01_Cmp
end Go.Bm
/- which motions can be drawn: the program's answer -/
set_option maxRecDepth 100000
namespace Go.Bm

def fine (p : Pt) : Pt := ⟨p.x * 16, p.y * 16, p.z * 16⟩
theorem fine_bd {b : Nat} {p : Pt} (h : bd b p) : bd (b * 16) (fine p) := by
 obtain ⟨h1, h2, h3⟩ := h
 unfold fine
 exact ⟨by simp only; omega, by simp only; omega, by simp only; omega⟩
theorem s_Fine {p : Pt} (h : bd 100000000 p) : m_cncref23_Fine [I p.x, I p.y, I p.z] = some (ptR (fine p)) := by
 unfold m_cncref23_Fine
 rw [mf_cncref23_Fine_eq]
 obtain ⟨h1, h2, h3⟩ := h
 rw [wrap_id (by omega), wrap_id (by omega), wrap_id (by omega)]
 rfl
end Go.Bm
/- the reference's spokes: the middle of a piece, the pieces of an arc, its chords -/
set_option maxRecDepth 100000
namespace Go.Bm

def okS (s : Spk) : Prop := s.u.natAbs <= 50000000 /\ s.w.natAbs <= 50000000 /\ (0 <= s.r /\ s.r <= 50000000) /\ s.h.natAbs <= 16777216
def hf (a b : Int) : Int := (a + b + 1) / 2
theorem s_half {a b : Int} (ha : a.natAbs <= 100000000) (hb : b.natAbs <= 100000000) : m_cncref23_half [I a, I b] = some [I (hf a b)] := by
  unfold m_cncref23_half
  rw [mf_cncref23_half_eq, wrap_id (x := a + b) (by omega), wrap_id (x := a + b + 1) (by omega)]
  have e : (2 ^ min (Int.toNat 1) IntKind.i64.bits : Int) = 2 := rfl
  rw [e, Int.fdiv_eq_ediv_of_nonneg _ (by omega)]
  rfl
def midD (a b : Spk) (dir : Int) (full : Bool) : Int × Int :=
  if full = true then (-a.u, -a.w)
  else if 0 < dt2 a.u a.w b.u b.w /\ 0 < crs a.u a.w b.u b.w * dir then (a.u + b.u, a.w + b.w)
  else if 0 < dt2 a.u a.w b.u b.w then (-(a.u + b.u), -(a.w + b.w))
  else (dir * (b.w - a.w), dir * (a.u - b.u))
noncomputable def midOf (a b : Spk) (u w : Int) : Spk := if u = 0 /\ w = 0 then ⟨0, 0, 0, 0⟩ else ⟨nearR u (hf a.r b.r) (sq2 u w), nearR w (hf a.r b.r) (sq2 u w), hf a.r b.r, hf a.h b.h⟩
noncomputable def midS (a b : Spk) (dir : Int) (full : Bool) : Spk := midOf a b (midD a b dir full).1 (midD a b dir full).2
theorem midD_bd {a b : Spk} (ha : okS a) (hb : okS b) {dir : Int} (hd : dir = 1 \/ dir = -1) (full : Bool) : (midD a b dir full).1.natAbs <= 100000000 /\ (midD a b dir full).2.natAbs <= 100000000 := by
  obtain ⟨a1, a2, -⟩ := ha
  obtain ⟨b1, b2, -⟩ := hb
  unfold midD
  split
  · exact ⟨by simp only; omega, by simp only; omega⟩
  · split
    · exact ⟨by simp only; omega, by simp only; omega⟩
    · split
      · exact ⟨by simp only; omega, by simp only; omega⟩
      · rcases hd with rfl | rfl
        · exact ⟨by simp only; omega, by simp only; omega⟩
        · exact ⟨by simp only; omega, by simp only; omega⟩
theorem sq2_sq (u w : Int) : u * u <= sq2 u w /\ w * w <= sq2 u w := by
  have h1 := sq_nn u
  have h2 := sq_nn w
  unfold sq2
  omega
theorem sq2_pos {u w : Int} (h : ¬ (u = 0 /\ w = 0)) : 0 < sq2 u w := by
  have h1 := sq_nn u
  have h2 := sq_nn w
  have z : ∀ u : Int, u * u = 0 -> u = 0 := fun u hu => by
    rcases Int.mul_eq_zero.1 hu with h | h <;> exact h
  have h3 : ¬ (u * u = 0 /\ w * w = 0) := fun h4 => h ⟨z _ h4.1, z _ h4.2⟩
  unfold sq2
  omega
theorem hf_bd {a b : Int} (ha : 0 <= a /\ a <= 50000000) (hb : 0 <= b /\ b <= 50000000) : 0 <= hf a b /\ hf a b <= 50000000 := by unfold hf; omega
theorem hf_bd2 {a b : Int} (ha : a.natAbs <= 16777216) (hb : b.natAbs <= 16777216) : (hf a b).natAbs <= 16777216 := by unfold hf; omega
theorem near_S {u w r : Int} (hu : u.natAbs <= 100000000) (hw : w.natAbs <= 100000000) (hr : 0 <= r /\ r <= 50000000) (h : ¬ (u = 0 /\ w = 0)) :
    (m_cncref23_Near [I u, I r, I (sq2 u w)] = some [I (nearR u r (sq2 u w))] /\ (nearR u r (sq2 u w)).natAbs <= r.natAbs) /\ (m_cncref23_Near [I w, I r, I (sq2 u w)] = some [I (nearR w r (sq2 u w))] /\ (nearR w r (sq2 u w)).natAbs <= r.natAbs) := by
  have hp := sq2_pos h
  have h1 := sq_bd hu
  have h2 := sq_bd hw
  have h3 : sq2 u w <= 20000000000000000 := by unfold sq2; omega
  obtain ⟨q1, q2⟩ := sq2_sq u w
  have key : ∀ x : Int, x.natAbs <= 100000000 -> x * x <= sq2 u w -> m_cncref23_Near [I x, I r, I (sq2 u w)] = some [I (nearR x r (sq2 u w))] /\ (nearR x r (sq2 u w)).natAbs <= r.natAbs := by
    intro x hx hq
    obtain ⟨g1, -, g3⟩ := s_cncref23_Near (x := x) (r := r) (n := sq2 u w) (Nat.le_trans hx (by decide)) (by omega) (by omega) hq
    refine ⟨g1, isRnd_le (by omega) ?_ g3⟩
    have : ((x.natAbs * x.natAbs : Nat) : Int) = x * x := Int.natAbs_mul_self
    omega
  exact ⟨key u hu q1, key w hw q2⟩
theorem midOf_ok {a b : Spk} (ha : okS a) (hb : okS b) {u w : Int} (hu : u.natAbs <= 100000000) (hw : w.natAbs <= 100000000) : okS (midOf a b u w) := by
  unfold midOf
  split
  · exact ⟨by simp, by simp, by simp, by simp⟩
  · rename_i h
    have hr := hf_bd ha.2.2.1 hb.2.2.1
    obtain ⟨⟨-, n1⟩, -, n2⟩ := near_S hu hw hr h
    exact ⟨by simp only; omega, by simp only; omega, hr, hf_bd2 ha.2.2.2 hb.2.2.2⟩
theorem midS_ok {a b : Spk} (ha : okS a) (hb : okS b) {dir : Int} (hd : dir = 1 \/ dir = -1) (full : Bool) : okS (midS a b dir full) :=
  midOf_ok ha hb (midD_bd ha hb hd full).1 (midD_bd ha hb hd full).2
theorem mid_tail {MN MH : List AC -> Option (List AC)} {a b : Spk} {u w : Int} (hu : u.natAbs <= 100000000) (hw : w.natAbs <= 100000000) (h1 : MH [I a.r, I b.r] = some [I (hf a.r b.r)]) (h2 : MH [I a.h, I b.h] = some [I (hf a.h b.h)])
    (hN : ¬ (u = 0 /\ w = 0) -> MN [I u, I (hf a.r b.r), I (sq2 u w)] = some [I (nearR u (hf a.r b.r) (sq2 u w))] /\ MN [I w, I (hf a.r b.r), I (sq2 u w)] = some [I (nearR w (hf a.r b.r) (sq2 u w))]) :
    (bif u == 0 then
      bif w == 0 then some [AC.int IntKind.i64 0, AC.int IntKind.i64 0, AC.int IntKind.i64 0, AC.int IntKind.i64 0, AC.bool false]
      else (MH [AC.int IntKind.i64 a.r, AC.int IntKind.i64 b.r]).bind fun o104 =>
       (MN [AC.int IntKind.i64 u, AC.int IntKind.i64 (intOf (nth AC.dead o104 0)), AC.int IntKind.i64 (IntKind.i64.wrap (IntKind.i64.wrap (u * u) + IntKind.i64.wrap (w * w)))]).bind fun o105 =>
       (MN [AC.int IntKind.i64 w, AC.int IntKind.i64 (intOf (nth AC.dead o104 0)), AC.int IntKind.i64 (IntKind.i64.wrap (IntKind.i64.wrap (u * u) + IntKind.i64.wrap (w * w)))]).bind fun o106 =>
       (MH [AC.int IntKind.i64 a.h, AC.int IntKind.i64 b.h]).bind fun o107 =>
       some [AC.int IntKind.i64 (intOf (nth AC.dead o105 0)), AC.int IntKind.i64 (intOf (nth AC.dead o106 0)), AC.int IntKind.i64 (intOf (nth AC.dead o104 0)), AC.int IntKind.i64 (intOf (nth AC.dead o107 0)), AC.bool true]
     else (MH [AC.int IntKind.i64 a.r, AC.int IntKind.i64 b.r]).bind fun o104 =>
       (MN [AC.int IntKind.i64 u, AC.int IntKind.i64 (intOf (nth AC.dead o104 0)), AC.int IntKind.i64 (IntKind.i64.wrap (IntKind.i64.wrap (u * u) + IntKind.i64.wrap (w * w)))]).bind fun o105 =>
       (MN [AC.int IntKind.i64 w, AC.int IntKind.i64 (intOf (nth AC.dead o104 0)), AC.int IntKind.i64 (IntKind.i64.wrap (IntKind.i64.wrap (u * u) + IntKind.i64.wrap (w * w)))]).bind fun o106 =>
       (MH [AC.int IntKind.i64 a.h, AC.int IntKind.i64 b.h]).bind fun o107 =>
       some [AC.int IntKind.i64 (intOf (nth AC.dead o105 0)), AC.int IntKind.i64 (intOf (nth AC.dead o106 0)), AC.int IntKind.i64 (intOf (nth AC.dead o104 0)), AC.int IntKind.i64 (intOf (nth AC.dead o107 0)), AC.bool true]) =
    some (spkR (midOf a b u w) ++ [B (decide (¬ (u = 0 /\ w = 0)))]) := by
  have q1 := sq_bd hu
  have q2 := sq_bd hw
  have e : IntKind.i64.wrap (IntKind.i64.wrap (u * u) + IntKind.i64.wrap (w * w)) = sq2 u w := by
    unfold sq2
    generalize u * u = x at *
    generalize w * w = y at *
    rw [wrap_id (x := x) (by omega), wrap_id (x := y) (by omega), wrap_id (by omega)]
  simp only [go_sem, e, h1, h2]
  unfold midOf
  by_cases h : u = 0 /\ w = 0
  · rw [if_pos h.1, if_pos h.2, if_pos h]
    simp [h]
  · obtain ⟨n1, n2⟩ := hN h
    rw [if_neg h]
    simp only [n1, n2, go_sem]
    have hd : decide (¬ (u = 0 /\ w = 0)) = true := decide_eq_true h
    rw [hd]
    by_cases hu0 : u = 0
    · rw [if_pos hu0, if_neg (fun hw0 => h ⟨hu0, hw0⟩)]; rfl
    · rw [if_neg hu0]; rfl
theorem a_cncref23_Middle {MN MH MC MD : List AC -> Option (List AC)} {a b : Spk} (ha : okS a) (hb : okS b) {dir : Int} (hd : dir = 1 \/ dir = -1) (full : Bool)
    (h1 : MH [I a.r, I b.r] = some [I (hf a.r b.r)]) (h2 : MH [I a.h, I b.h] = some [I (hf a.h b.h)])
    (hN : ∀ {u w : Int}, u.natAbs <= 100000000 -> w.natAbs <= 100000000 -> ¬ (u = 0 /\ w = 0) -> MN [I u, I (hf a.r b.r), I (sq2 u w)] = some [I (nearR u (hf a.r b.r) (sq2 u w))] /\ MN [I w, I (hf a.r b.r), I (sq2 u w)] = some [I (nearR w (hf a.r b.r) (sq2 u w))])
    (hC : MC [I a.u, I a.w, I a.r, I a.h, I b.u, I b.w, I b.r, I b.h] = some [I (crs a.u a.w b.u b.w)]) (hD : MD [I a.u, I a.w, I a.r, I a.h, I b.u, I b.w, I b.r, I b.h] = some [I (dt2 a.u a.w b.u b.w)])
    (hcb : (crs a.u a.w b.u b.w).natAbs <= 5000000000000000) :
    mf_cncref23_Middle MN MH MC MD [I a.u, I a.w, I a.r, I a.h, I b.u, I b.w, I b.r, I b.h, I dir, B full] = some (spkR (midS a b dir full) ++ [B (decide (¬ ((midD a b dir full).1 = 0 /\ (midD a b dir full).2 = 0)))]) := by
  have key := fun {u w : Int} (hu : u.natAbs <= 100000000) (hw : w.natAbs <= 100000000) => mid_tail (MN := MN) (MH := MH) (a := a) (b := b) hu hw h1 h2 (hN hu hw)
  have hbd := midD_bd ha hb hd full
  obtain ⟨a1, a2, -⟩ := ha
  obtain ⟨b1, b2, -⟩ := hb
  have w1 : IntKind.i64.wrap (0 - a.u) = -a.u := by rw [wrap_id (by omega)]; omega
  have w2 : IntKind.i64.wrap (0 - a.w) = -a.w := by rw [wrap_id (by omega)]; omega
  have w3 : IntKind.i64.wrap (a.u + b.u) = a.u + b.u := wrap_id (by omega)
  have w4 : IntKind.i64.wrap (a.w + b.w) = a.w + b.w := wrap_id (by omega)
  have w5 : IntKind.i64.wrap (0 - (a.u + b.u)) = -(a.u + b.u) := by rw [wrap_id (by omega)]; omega
  have w6 : IntKind.i64.wrap (0 - (a.w + b.w)) = -(a.w + b.w) := by rw [wrap_id (by omega)]; omega
  have w7 : IntKind.i64.wrap (b.w - a.w) = b.w - a.w := wrap_id (by omega)
  have w8 : IntKind.i64.wrap (a.u - b.u) = a.u - b.u := wrap_id (by omega)
  have w9 : IntKind.i64.wrap (dir * (b.w - a.w)) = dir * (b.w - a.w) := by rcases hd with rfl | rfl <;> exact wrap_id (by omega)
  have w10 : IntKind.i64.wrap (dir * (a.u - b.u)) = dir * (a.u - b.u) := by rcases hd with rfl | rfl <;> exact wrap_id (by omega)
  have w11 : IntKind.i64.wrap (crs a.u a.w b.u b.w * dir) = crs a.u a.w b.u b.w * dir := by rcases hd with rfl | rfl <;> exact wrap_id (by omega)
  rw [mf_cncref23_Middle_eq]
  try dsimp only [go_sem]
  unfold midS
  simp only [w1, w2, w3, w4, w5, w6, w7, w8, w9, w10, hC, hD, Option.bind_some, nth_zero', intOf_int, gA, jA, wA, bA, w11]
  have fin : ∀ {x : Option (List AC)}, x = some (spkR (midOf a b (midD a b dir full).1 (midD a b dir full).2) ++ [B (decide (¬ ((midD a b dir full).1 = 0 /\ (midD a b dir full).2 = 0)))]) ->
      (bif dir != 1 then bif dir != -1 then some [AC.int IntKind.i64 0, AC.int IntKind.i64 0, AC.int IntKind.i64 0, AC.int IntKind.i64 0, AC.bool false] else x else x) = some (spkR (midOf a b (midD a b dir full).1 (midD a b dir full).2) ++ [B (decide (¬ ((midD a b dir full).1 = 0 /\ (midD a b dir full).2 = 0)))]) := by
    intro x hx
    rcases hd with rfl | rfl
    · rw [bif_false (by decide)]; exact hx
    · rw [bif_true (by decide), bif_false (by decide)]; exact hx
  refine fin ?_
  have hk := key hbd.1 hbd.2
  unfold midD at *
  cases full
  · simp only [cond_false, Bool.false_eq_true, if_false] at hk ⊢
    by_cases c1 : 0 < dt2 a.u a.w b.u b.w
    · rw [bif_pos (show dt2 a.u a.w b.u b.w > 0 from c1)]
      by_cases c2 : 0 < crs a.u a.w b.u b.w * dir
      · rw [bif_pos (show crs a.u a.w b.u b.w * dir > 0 from c2)]
        rw [if_pos ⟨c1, c2⟩] at hk ⊢
        exact hk
      · rw [bif_neg (show ¬ crs a.u a.w b.u b.w * dir > 0 from c2), bif_pos (show dt2 a.u a.w b.u b.w > 0 from c1)]
        rw [if_neg (fun h => c2 h.2), if_pos c1] at hk ⊢
        exact hk
    · rw [bif_neg (show ¬ dt2 a.u a.w b.u b.w > 0 from c1), bif_neg (show ¬ dt2 a.u a.w b.u b.w > 0 from c1)]
      rw [if_neg (fun h => c1 h.1), if_neg c1] at hk ⊢
      exact hk
  · simp only [cond_true, if_true] at hk ⊢
    exact hk
theorem dir_nat {x : Int} (h : x.natAbs <= 50000000) : x.natAbs <= 1000000000 := Nat.le_trans h (by decide)
theorem s_cncref23_Middle {a b : Spk} (ha : okS a) (hb : okS b) {dir : Int} (hd : dir = 1 \/ dir = -1) (full : Bool) :
    m_cncref23_Middle [I a.u, I a.w, I a.r, I a.h, I b.u, I b.w, I b.r, I b.h, I dir, B full] = some (spkR (midS a b dir full) ++ [B (decide (¬ ((midD a b dir full).1 = 0 /\ (midD a b dir full).2 = 0)))]) := by
  have hc := (dt2_bd ha.1 ha.2.1 hb.1 hb.2.1).2
  exact a_cncref23_Middle ha hb hd full (s_half (by have := ha.2.2.1; omega) (by have := hb.2.2.1; omega)) (s_half (Nat.le_trans ha.2.2.2 (by decide)) (Nat.le_trans hb.2.2.2 (by decide)))
    (fun hu hw h => by obtain ⟨⟨g1, -⟩, g2, -⟩ := near_S hu hw (hf_bd ha.2.2.1 hb.2.2.1) h; exact ⟨g1, g2⟩)
    (s_cncref23_Cross (dir_nat ha.1) (dir_nat ha.2.1) (dir_nat hb.1) (dir_nat hb.2.1)) (s_cncref23_Dot (dir_nat ha.1) (dir_nat ha.2.1) (dir_nat hb.1) (dir_nat hb.2.1)) hc

def setS (a b : Spk) (dir : Int) (full : Bool) : Prop := full = false /\ 0 < crs a.u a.w b.u b.w * dir /\ sq2 (a.u - b.u) (a.w - b.w) <= 32 * mn a.r b.r - 64
theorem s_Flat {r n : Int} (hr : 0 <= r /\ r <= 50000000) : m_cncref23_Flat [I r, I n] = some [B (decide (n <= 32 * r - 64))] := by
  unfold m_cncref23_Flat
  rw [mf_cncref23_Flat_eq, wrap_id (x := 8 * r) (by omega), wrap_id (x := 8 * r * 4) (by omega), wrap_id (x := 8 * r * 4 - 64) (by omega), show 8 * r * 4 - 64 = 32 * r - 64 by omega]
instance {a b : Spk} {dir : Int} {full : Bool} : Decidable (setS a b dir full) := by unfold setS; infer_instance
theorem a_cncref23_settled {MF MC : List AC -> Option (List AC)} {a b : Spk} (ha : okS a) (hb : okS b) {dir : Int} (hd : dir = 1 \/ dir = -1) (full : Bool)
    (hF : ∀ {r n : Int}, (0 <= r /\ r <= 50000000) -> MF [I r, I n] = some [B (decide (n <= 32 * r - 64))])
    (hC : MC [I a.u, I a.w, I a.r, I a.h, I b.u, I b.w, I b.r, I b.h] = some [I (crs a.u a.w b.u b.w)]) (hcb : (crs a.u a.w b.u b.w).natAbs <= 5000000000000000) :
    mf_cncref23_settled MF MC [I a.u, I a.w, I a.r, I a.h, I b.u, I b.w, I b.r, I b.h, I dir, B full] = some [B (decide (setS a b dir full))] := by
  have hr : 0 <= mn a.r b.r /\ mn a.r b.r <= 50000000 := by
    have h1 := ha.2.2.1
    have h2 := hb.2.2.1
    unfold mn; split <;> omega
  obtain ⟨a1, a2, -⟩ := ha
  obtain ⟨b1, b2, -⟩ := hb
  have x1 := sub_nat a1 b1
  have x2 := sub_nat a2 b2
  have q1 := sq_bd x1
  have q2 := sq_bd x2
  have e : IntKind.i64.wrap (IntKind.i64.wrap ((a.u - b.u) * (a.u - b.u)) + IntKind.i64.wrap ((a.w - b.w) * (a.w - b.w))) = sq2 (a.u - b.u) (a.w - b.w) := by
    unfold sq2
    generalize (a.u - b.u) * (a.u - b.u) = x at *
    generalize (a.w - b.w) * (a.w - b.w) = y at *
    rw [wrap_id (x := x) (by omega), wrap_id (x := y) (by omega), wrap_id (by omega)]
  have w11 : IntKind.i64.wrap (crs a.u a.w b.u b.w * dir) = crs a.u a.w b.u b.w * dir := by rcases hd with rfl | rfl <;> exact wrap_id (by omega)
  rw [mf_cncref23_settled_eq, wrap_nat x1 (by decide), wrap_nat x2 (by decide), e]
  cases full
  · simp only [Bool.not_false, cond_true, hC, Option.bind_some, nth_zero', intOf_int, gA, jA, wA, bA, w11, hF hr, boolOf_bool]
    by_cases c : 0 < crs a.u a.w b.u b.w * dir
    · rw [bif_pos (show crs a.u a.w b.u b.w * dir > 0 from c)]
      by_cases c2 : sq2 (a.u - b.u) (a.w - b.w) <= 32 * mn a.r b.r - 64
      · rw [decide_eq_true c2, decide_eq_true (show setS a b dir false from ⟨rfl, c, c2⟩)]
      · rw [decide_eq_false c2, decide_eq_false (fun h : setS a b dir false => c2 h.2.2)]
    · rw [bif_neg (show ¬ crs a.u a.w b.u b.w * dir > 0 from c), decide_eq_false (fun h : setS a b dir false => c h.2.1)]
  · simp only [Bool.not_true, cond_false]
    rw [decide_eq_false (fun h : setS a b dir true => by cases h.1)]
theorem s_cncref23_settled {a b : Spk} (ha : okS a) (hb : okS b) {dir : Int} (hd : dir = 1 \/ dir = -1) (full : Bool) :
    m_cncref23_settled [I a.u, I a.w, I a.r, I a.h, I b.u, I b.w, I b.r, I b.h, I dir, B full] = some [B (decide (setS a b dir full))] :=
  a_cncref23_settled ha hb hd full s_Flat (s_cncref23_Cross (dir_nat ha.1) (dir_nat ha.2.1) (dir_nat hb.1) (dir_nat hb.2.1)) (dt2_bd ha.1 ha.2.1 hb.1 hb.2.1).2

noncomputable def pcsL (dir : Int) : Nat -> Bool -> Spk -> Spk -> List Spk
  | 0, _, _, b => [b]
  | k + 1, full, a, b => if setS a b dir full then [b] else pcsL dir k false a (midS a b dir full) ++ pcsL dir k false (midS a b dir full) b
theorem pcsL_len {dir : Int} : ∀ (k : Nat) (full : Bool) (a b : Spk), 1 <= (pcsL dir k full a b).length /\ (pcsL dir k full a b).length <= 2 ^ k
  | 0, _, _, b => by simp [pcsL]
  | k + 1, full, a, b => by
    have hp : 0 < 2 ^ k := Nat.two_pow_pos _
    have e3 : 2 ^ (k + 1) = 2 ^ k + 2 ^ k := by rw [Nat.pow_succ]; omega
    unfold pcsL
    split
    · simp; omega
    · have h1 := pcsL_len k false a (midS a b dir full) (dir := dir)
      have h2 := pcsL_len k false (midS a b dir full) b (dir := dir)
      rw [List.length_append]
      omega
theorem pcsL_ok {dir : Int} (hd : dir = 1 \/ dir = -1) : ∀ (k : Nat) (full : Bool) {a b : Spk}, okS a -> okS b -> ∀ s ∈ pcsL dir k full a b, okS s
  | 0, _, a, b, _, hb, s, hs => by simp [pcsL] at hs; subst hs; exact hb
  | k + 1, full, a, b, ha, hb, s, hs => by
    unfold pcsL at hs
    have hm := midS_ok ha hb hd full
    split at hs
    · simp at hs; subst hs; exact hb
    · rcases List.mem_append.1 hs with hs | hs
      · exact pcsL_ok hd k false ha hm s hs
      · exact pcsL_ok hd k false hm hb s hs
theorem s_pieces {dir : Int} (hd : dir = 1 \/ dir = -1) : ∀ (n k : Nat) (full : Bool) (a b : Spk), k <= 16 -> k < n -> okS a -> okS b ->
    mR_cncref23_pieces n [I a.u, I a.w, I a.r, I a.h, I b.u, I b.w, I b.r, I b.h, I dir, B full, I (16 - k : Int)] = some [.view kSpk ((pcsL dir k full a b).map spkR)]
  | 0, k, _, _, _, _, hk, _, _ => by omega
  | n + 1, 0, full, a, b, _, _, ha, hb => by
    show mf_cncref23_pieces _ _ _ _ = _
    rw [mf_cncref23_pieces_eq, bif_pos (by omega)]
    rfl
  | n + 1, k + 1, full, a, b, hk, hn, ha, hb => by
    have hm := midS_ok ha hb hd full
    have i1 := s_pieces hd n k false a (midS a b dir full) (by omega) (by omega) ha hm
    have i2 := s_pieces hd n k false (midS a b dir full) b (by omega) (by omega) hm hb
    have e1 := s_cncref23_settled ha hb hd full
    have e2 := s_cncref23_Middle ha hb hd full
    show mf_cncref23_pieces (mR_cncref23_pieces n) m_cncref23_Middle m_cncref23_settled _ = _
    generalize mR_cncref23_pieces n = MP at *
    generalize m_cncref23_Middle = MM at *
    generalize m_cncref23_settled = MS at *
    have l1 := (pcsL_len k false a (midS a b dir full) (dir := dir)).2
    have l2 := (pcsL_len k false (midS a b dir full) b (dir := dir)).2
    have l3 : 2 ^ k <= 2 ^ 16 := Nat.pow_le_pow_right (by omega) (by omega)
    rw [mf_cncref23_pieces_eq, bif_neg (by omega), wrap_id (by omega), show (16 - ((k + 1 : Nat) : Int) + 1) = 16 - (k : Int) by omega]
    unfold pcsL
    generalize midS a b dir full = m at *
    generalize pcsL dir k false a m = p1 at *
    generalize pcsL dir k false m b = p2 at *
    simp only [List.cons_append, List.nil_append, spkR] at e2
    simp only [e1, e2, Option.bind_some, nth_zero', nth_1, nth_2, nth_3, intOf_int, gA, jA, wA, bA, boolOf_bool, i1, i2, rowsOf_view]
    by_cases c : setS a b dir full
    · rw [if_pos c, bif_true (decide_eq_true c)]; rfl
    · rw [if_neg c, bif_false (decide_eq_false c), bif_true]
      · rw [List.map_append]
      · have e : ((List.map spkR p1 ++ List.map spkR p2).length * 32) <= 140737488355328 := by
          simp only [List.length_append, List.length_map]
          have : (2 : Nat) ^ 16 = 65536 := rfl
          omega
        exact Nat.ble_eq_true_of_le e
end Go.Bm
/- the reference's chords -/
set_option maxRecDepth 100000
namespace Go.Bm

theorem isMid_unique {n i j : Int} (hi : IsMid n i) (hj : IsMid n j) : i = j := by
 have key : ∀ {i j : Int}, IsMid n i -> IsMid n j -> ¬ i < j := by
  rintro i j ⟨h1, h2, -⟩ ⟨h4, h5, h6⟩ hlt
  rcases h6 with h6 | h6
  ·omega
  ·have h7 := Int.mul_le_mul (show i <= j - 1 by omega) (show i + 1 <= j by omega) (by omega) (by omega)
   omega
 have h1 := key hi hj
 have h2 := key hj hi
 omega
open Classical in
noncomputable def midR (n : Int) : Int := if h : ∃ j, IsMid n j then Classical.choose h else 0
theorem midR_of {n k : Int} (h : IsMid n k) : midR n = k := by
 have hx : ∃ j, IsMid n j := ⟨k, h⟩
 unfold midR
 rw [dif_pos hx]
 exact isMid_unique (Classical.choose_spec hx) h
theorem isMid_nat {n r : Nat} (h1 : r * r <= n) (h2 : n < (r + 1) * (r + 1)) : IsMid n (if r * r + r < n then r + 1 else r : Nat) := by
 have e0 : (r + 1) * (r + 1) = r * r + r + r + 1 := by grind
 unfold IsMid
 by_cases c : r * r + r < n
 ·rw [if_pos c]
  have e1 : ((r + 1 : Nat) : Int) * (((r + 1 : Nat) : Int) + 1) = ((r * r + r + r + r + 2 : Nat) : Int) := by
   have : ((r + 1 : Nat) : Int) + 1 = ((r + 2 : Nat) : Int) := by omega
   rw [this, <- Int.natCast_mul]
   congr 1
   grind
  have e2 : (((r + 1 : Nat) : Int) - 1) * ((r + 1 : Nat) : Int) = ((r * r + r : Nat) : Int) := by
   rw [show ((r + 1 : Nat) : Int) - 1 = (r : Int) by omega, <- Int.natCast_mul]
   congr 1
  rw [e1, e2]
  generalize r * r = A at *
  exact ⟨by omega, by omega, .inr (by omega)⟩
 ·rw [if_neg c]
  have e1 : (r : Int) * ((r : Int) + 1) = ((r * r + r : Nat) : Int) := by
   rw [show (r : Int) + 1 = ((r + 1 : Nat) : Int) by omega, <- Int.natCast_mul]
   congr 1
  rw [e1]
  refine ⟨by omega, by omega, ?_⟩
  rcases Nat.eq_zero_or_pos r with h | h
  ·left; omega
  ·right
   have e2 : ((r : Int) - 1) * (r : Int) = (((r - 1) * r : Nat) : Int) := by
    rw [show (r : Int) - 1 = ((r - 1 : Nat) : Int) by omega]; exact (Int.natCast_mul _ _).symm
   have := Nat.mul_lt_mul_of_pos_right (show r - 1 < r by omega) h
   rw [e2]; omega
noncomputable def endS (it : Itm) (p : Pt) : Spk := ⟨dU it p * 16, dW it p * 16, midR (sq2 (dU it p * 16) (dW it p * 16)), plH it.plane p * 16⟩
theorem mid_bd {n : Nat} (hn : n <= 2251799813685248) : 0 <= midR n /\ midR n <= 50000000 := by
 obtain ⟨r, -, h2, h3, -⟩ := s_cncref23_root (n := n) (by omega)
 have hm := isMid_nat h2 h3
 rw [midR_of hm]
 have : r < 50000000 := by
  by_cases c : r < 50000000
  ·exact c
  ·have := Nat.mul_le_mul (show 50000000 <= r by omega) (show 50000000 <= r by omega)
   omega
 split <;> omega
theorem endS_sq {it : Itm} {p : Pt} (hc : bd 1048576 it.ce) (hp : bd 1048576 p) : (dU it p * 16).natAbs <= 33554432 /\ (dW it p * 16).natAbs <= 33554432 /\ 0 <= sq2 (dU it p * 16) (dW it p * 16) /\ sq2 (dU it p * 16) (dW it p * 16) <= 2251799813685248 := by
 obtain ⟨h1, h2⟩ := dU_bd hc hp
 have h3 : (dU it p * 16).natAbs <= 33554432 := by omega
 have h4 : (dW it p * 16).natAbs <= 33554432 := by omega
 have q1 := sq_bd h3
 have q2 := sq_bd h4
 refine ⟨h3, h4, ?_⟩
 unfold sq2
 omega
theorem endS_ok {it : Itm} {p : Pt} (hc : bd 1048576 it.ce) (hp : bd 1048576 p) : okS (endS it p) := by
 obtain ⟨h1, h2, h3, h4⟩ := endS_sq hc hp
 have h5 := (pl_bd (pl := it.plane) hp).2.2
 obtain ⟨n, hn⟩ := Int.eq_ofNat_of_zero_le h3
 refine ⟨Nat.le_trans h1 (by decide), Nat.le_trans h2 (by decide), ?_, ?_⟩
 ·show 0 <= midR _ /\ midR _ <= _
  rw [hn] at h4 ⊢
  exact mid_bd (by omega)
 ·show (plH it.plane p * 16).natAbs <= _
  omega
theorem a_cncref23_spoke {MR MD : List AC -> Option (List AC)} {u w h : Int} {n r : Nat} (hu : u.natAbs <= 100000000) (hw : w.natAbs <= 100000000) (hh : h.natAbs <= 100000000) (hn : sq2 (u * 16) (w * 16) = n) (hn2 : n <= 2251799813685248)
  (hD : MD [I (u * 16), I (w * 16), I 0, I (h * 16), I (u * 16), I (w * 16), I 0, I (h * 16)] = some [I (sq2 (u * 16) (w * 16))]) (hR : MR [I n] = some [I r]) (h2 : r * r <= n) (h3 : n < (r + 1) * (r + 1)) :
  mf_cncref23_spoke MR MD [I u, I w, I 0, I h] = some (spkR ⟨u * 16, w * 16, midR n, h * 16⟩) := by
 have hm := isMid_nat h2 h3
 rw [midR_of hm]
 rw [mf_cncref23_spoke_eq, wrap_id (x := u * 16) (by omega), wrap_id (x := w * 16) (by omega), wrap_id (x := h * 16) (by omega)]
 have hr : r <= r * r := by
  rcases Nat.eq_zero_or_pos r with h | h
  ·subst h; simp
  ·exact Nat.le_mul_of_pos_left r h
 have e1 : (r : Int) * ((r : Int) + 1) = ((r * r + r : Nat) : Int) := by
  rw [show (r : Int) + 1 = ((r + 1 : Nat) : Int) by omega, <- Int.natCast_mul]
  congr 1
 have w1 : IntKind.i64.wrap ((r : Int) * ((r + 1 : Nat) : Int)) = ((r * r + r : Nat) : Int) := by
  rw [show ((r + 1 : Nat) : Int) = (r : Int) + 1 by omega, e1, wrap_id (by omega)]
 have w2 : IntKind.i64.wrap ((r : Int) + 1) = ((r + 1 : Nat) : Int) := by rw [wrap_id (by omega)]; omega
 simp only [go_sem, hD, hn, hR, w1, w2]
 by_cases c : r * r + r < n
 ·rw [if_pos (by omega), if_pos c]
 ·rw [if_neg (by omega), if_neg c]
theorem s_cncref23_spoke {it : Itm} {p : Pt} (hc : bd 1048576 it.ce) (hp : bd 1048576 p) : m_cncref23_spoke [I (dU it p), I (dW it p), I 0, I (plH it.plane p)] = some (spkR (endS it p)) := by
 obtain ⟨h1, h2, h3, h4⟩ := endS_sq hc hp
 obtain ⟨n, hn⟩ := Int.eq_ofNat_of_zero_le h3
 have h5 := (pl_bd (pl := it.plane) hp).2.2
 have h6 := dU_bd hc hp
 have hd := s_cncref23_Dot (r := 0) (h := plH it.plane p * 16) (s := 0) (g := plH it.plane p * 16) (Nat.le_trans h1 (by decide)) (Nat.le_trans h2 (by decide)) (Nat.le_trans h1 (by decide)) (Nat.le_trans h2 (by decide))
 rw [hn] at h4
 obtain ⟨r, r1, r2, r3, -⟩ := s_cncref23_root (n := n) (by omega)
 have := a_cncref23_spoke (MR := m_cncref23_root) (MD := m_cncref23_Dot) (u := dU it p) (w := dW it p) (h := plH it.plane p) (by omega) (by omega) (by omega) hn (by omega) hd r1 r2 r3
 rw [show endS it p = ⟨dU it p * 16, dW it p * 16, midR n, plH it.plane p * 16⟩ from by unfold endS; rw [hn]]
 exact this
theorem a_cncref23_Ends {MS ME : List AC -> Option (List AC)} {it : Itm} (h1 : ME (itmR it) = some [I (dU it it.fr), I (dW it it.fr), I 0, I (plH it.plane it.fr), I (dU it it.to), I (dW it it.to), I 0, I (plH it.plane it.to)])
  (h2 : MS [I (dU it it.fr), I (dW it it.fr), I 0, I (plH it.plane it.fr)] = some (spkR (endS it it.fr))) (h3 : MS [I (dU it it.to), I (dW it it.to), I 0, I (plH it.plane it.to)] = some (spkR (endS it it.to))) :
  mf_cncref23_Ends MS ME (itmR it) = some (spkR (endS it it.fr) ++ spkR (endS it it.to)) := by
 rw [mf_cncref23_Ends_eq]
 simp only [go_sem, h1, h2, h3]
 rfl
theorem s_cncref23_Ends {it : Itm} (h : validI it) (h3 : it.kind = 3) : m_cncref23_Ends (itmR it) = some (spkR (endS it it.fr) ++ spkR (endS it it.to)) := by
 obtain ⟨-, h1, h2, ha⟩ := h
 obtain ⟨hp, -, hc, -⟩ := ha h3
 exact a_cncref23_Ends (s_cncref23_ends hp (by decide) h1 h2 hc) (s_cncref23_spoke hc h1) (s_cncref23_spoke hc h2)

noncomputable def spokesP (it : Itm) : List Spk := endS it it.fr :: pcsL it.dir 16 it.full (endS it it.fr) (endS it it.to)
theorem spokesP_ok {it : Itm} (h : validI it) (h3 : it.kind = 3) : ∀ s ∈ spokesP it, okS s := by
 obtain ⟨-, h1, h2, ha⟩ := h
 obtain ⟨hp, hd, hc, -⟩ := ha h3
 intro s hs
 rcases List.mem_cons.1 hs with rfl | hs
 ·exact endS_ok hc h1
 ·exact pcsL_ok hd 16 _ (endS_ok hc h1) (endS_ok hc h2) s hs
theorem spokesP_len (it : Itm) : 2 <= (spokesP it).length /\ (spokesP it).length <= 65537 := by
 have := pcsL_len (dir := it.dir) 16 it.full (endS it it.fr) (endS it it.to)
 have e : (2 : Nat) ^ 16 = 65536 := rfl
 rw [e] at this
 unfold spokesP
 rw [List.length_cons]
 omega
theorem a_cncref23_Spokes {MP ME MV : List AC -> Option (List AC)} {it : Itm} (hV : ∃ v, MV (itmR it) = some [B v] /\ (v = true ↔ validI it)) (h : validI it)
  (hE : it.kind = 3 -> ME (itmR it) = some (spkR (endS it it.fr) ++ spkR (endS it it.to)))
  (hP : it.kind = 3 -> MP (spkR (endS it it.fr) ++ spkR (endS it it.to) ++ [I it.dir, B it.full, I 0]) = some [.view kSpk ((pcsL it.dir 16 it.full (endS it it.fr) (endS it it.to)).map spkR)]) :
  mf_cncref23_Spokes MP ME MV (itmR it) = if it.kind = 3 then some [.view kSpk ((spokesP it).map spkR), B true] else some [.view kSpk [], B false] := by
 obtain ⟨v, hv, hvv⟩ := hV
 rw [mf_cncref23_Spokes_eq]
 by_cases h3 : it.kind = 3
 ·have e := hE h3
  have p := hP h3
  have hl := (spokesP_len it).2
  unfold spokesP at hl ⊢
  generalize endS it it.fr = a at *
  generalize endS it it.to = b at *
  generalize pcsL it.dir 16 it.full a b = l at *
  simp only [List.cons_append, List.nil_append] at e p
  simp only [go_sem, hv, e, p]
  rw [if_neg (by simp [h3]), if_neg (by simp [hvv.2 h]), if_pos (by simp at hl ⊢; omega), if_pos h3]
  rfl
 ·simp only [go_sem]
  rw [if_pos h3, if_neg h3]
theorem s_cncref23_Spokes {it : Itm} (h : validI it) : m_cncref23_Spokes (itmR it) = if it.kind = 3 then some [.view kSpk ((spokesP it).map spkR), B true] else some [.view kSpk [], B false] := by
 refine a_cncref23_Spokes (s_cncref23_Valid it) h (fun h3 => s_cncref23_Ends h h3) fun h3 => ?_
 obtain ⟨-, h1, h2, ha⟩ := h
 obtain ⟨hp, hd, hc, -⟩ := ha h3
 exact s_pieces hd 20 16 it.full _ _ (by omega) (by omega) (endS_ok hc h1) (endS_ok hc h2)

noncomputable def chPt (it : Itm) (s : Spk) : Pt := spP it.plane (plU it.plane (fine it.ce) + s.u) (plW it.plane (fine it.ce) + s.w) s.h
noncomputable def chordsP (it : Itm) : List Pt := if it.kind = 3 then (spokesP it).map (chPt it) else [fine it.fr, fine it.to]
theorem sp_bd {pl u w h : Int} {b : Nat} (hu : u.natAbs <= b) (hw : w.natAbs <= b) (hh : h.natAbs <= b) : bd b (spP pl u w h) := by
 unfold spP bd
 split
 ·exact ⟨hu, hw, hh⟩
 ·split
  ·exact ⟨hw, hh, hu⟩
  ·exact ⟨hh, hu, hw⟩
theorem chPt_bd {it : Itm} {s : Spk} (hc : bd 1048576 it.ce) (hs : okS s) : bd 67108864 (chPt it s) := by
 obtain ⟨h1, h2, -⟩ := pl_bd (pl := it.plane) (fine_bd hc)
 obtain ⟨s1, s2, -, s4⟩ := hs
 exact sp_bd (by omega) (by omega) (by omega)
theorem chordsP_bd {it : Itm} (h : validI it) : ∀ p ∈ chordsP it, bd 67108864 p := by
 intro p hp
 unfold chordsP at hp
 split at hp
 ·rename_i h3
  simp only [List.mem_map] at hp
  obtain ⟨s, hs, rfl⟩ := hp
  exact chPt_bd (h.2.2.2 h3).2.2.1 (spokesP_ok h h3 s hs)
 ·simp at hp
  rcases hp with rfl | rfl
  ·exact bd_mono (fine_bd h.2.1) (by decide)
  ·exact bd_mono (fine_bd h.2.2.1) (by decide)
theorem chordsP_len (it : Itm) : 2 <= (chordsP it).length /\ (chordsP it).length <= 65537 := by
 have := spokesP_len it
 unfold chordsP
 split <;> simp <;> omega
theorem l_Chords {MS MP MF MK MV : List AC -> Option (List AC)} {it : Itm} {l : List Spk} {cu cw : Int} (hl : l.length <= 65537) (hcu : cu.natAbs <= 16777216) (hcw : cw.natAbs <= 16777216) (hok : ∀ s ∈ l, okS s)
  (hS : ∀ {u w h : Int}, MS [I u, I w, I h, I it.plane] = some (ptR (spP it.plane u w h))) :
  ∀ (k i : Nat), i + k = l.length -> loopC (st_cncref23_Chords_9 MS MP MF MK MV) (.view kPt (((l.take i).map fun s => spP it.plane (cu + s.u) (cw + s.w) s.h).map ptR) :: I cu :: I cw :: .view kSpk (l.map spkR) :: I l.length :: I i :: itmR it) =
   some (1, [.view kPt ((l.map fun s => spP it.plane (cu + s.u) (cw + s.w) s.h).map ptR)])
 | 0, i, hi => by
  refine loop_end ?_ (by simp)
  rw [st_cncref23_Chords_9_eq]
  simp only [go_sem]
  rw [if_neg (by omega), List.take_of_length_le (by omega)]
 | k + 1, i, hi => by
  have hlt : i < l.length := by omega
  have hs : st_cncref23_Chords_9 MS MP MF MK MV (.view kPt (((l.take i).map fun s => spP it.plane (cu + s.u) (cw + s.w) s.h).map ptR) :: I cu :: I cw :: .view kSpk (l.map spkR) :: I l.length :: I i :: itmR it) =
    some (0, .view kPt (((l.take (i + 1)).map fun s => spP it.plane (cu + s.u) (cw + s.w) s.h).map ptR) :: I cu :: I cw :: .view kSpk (l.map spkR) :: I l.length :: I (i + 1 : Nat) :: itmR it) := by
   rw [st_cncref23_Chords_9_eq]
   have hr : nth [] (l.map spkR) i = spkR l[i] := nth_map _ _ _ _ hlt
   have ho := hok _ (List.getElem_mem hlt)
   have ht : l.take (i + 1) = l.take i ++ [l[i]] := by rw [List.take_add_one, List.getElem?_eq_getElem hlt]; rfl
   rw [ht]
   generalize l[i] = s at *
   obtain ⟨s1, s2, -⟩ := ho
   simp only [go_sem, Int.toNat_natCast, List.length_map, hr]
   rw [if_pos (by omega), if_pos (by omega), wrap_id (x := cu + s.u) (by omega), wrap_id (x := cw + s.w) (by omega), wrap_id (x := (i : Int) + 1) (by omega)]
   simp only [hS, go_sem]
   rw [if_pos (by simp only [List.length_append, List.length_map, List.length_take, List.length_cons, List.length_nil]; omega), List.map_append, List.map_append]
   rfl
  rw [loop_more hs]
  exact l_Chords hl hcu hcw hok hS k (i + 1) (by omega)
theorem a_cncref23_Chords {MS MP MF MK MV : List AC -> Option (List AC)} {it : Itm} (hV : ∃ v, MV (itmR it) = some [B v] /\ (v = true ↔ validI it)) (h : validI it)
  (hK : MK (itmR it) = if it.kind = 3 then some [.view kSpk ((spokesP it).map spkR), B true] else some [.view kSpk [], B false])
  (hF : ∀ {p : Pt}, bd 100000000 p -> MF [I p.x, I p.y, I p.z] = some (ptR (fine p))) (hP : isPl it.plane -> ∀ {p : Pt}, MP [I p.x, I p.y, I p.z, I it.plane] = some [I (plU it.plane p), I (plW it.plane p), I (plH it.plane p)])
  (hS : isPl it.plane -> ∀ {u w h : Int}, MS [I u, I w, I h, I it.plane] = some (ptR (spP it.plane u w h))) :
  mf_cncref23_Chords MS MP MF MK MV (loopC (st_cncref23_Chords_9 MS MP MF MK MV)) (itmR it) = some [.view kPt ((chordsP it).map ptR), B true] := by
 obtain ⟨v, hv, hvv⟩ := hV
 rw [mf_cncref23_Chords_eq]
 have hv1 := hvv.2 h
 subst hv1
 obtain ⟨-, h1, h2, ha⟩ := id h
 by_cases h3 : it.kind = 3
 ·obtain ⟨hp, hd, hc, -⟩ := ha h3
  rw [if_pos h3] at hK
  obtain ⟨c1, c2, c3⟩ := pl_bd (pl := it.plane) (fine_bd hc)
  have hl := l_Chords (MS := MS) (MP := MP) (MF := MF) (MK := MK) (MV := MV) (it := it) (l := spokesP it) (cu := plU it.plane (fine it.ce)) (cw := plW it.plane (fine it.ce)) (spokesP_len it).2 c1 c2 (spokesP_ok h h3) (hS hp) (spokesP it).length 0 (by omega)
  have hl' : loopC (st_cncref23_Chords_9 MS MP MF MK MV) [.view kPt [], I (plU it.plane (fine it.ce)), I (plW it.plane (fine it.ce)), .view kSpk ((spokesP it).map spkR), I (spokesP it).length, I 0, I it.kind, I it.block, I it.fr.x, I it.fr.y, I it.fr.z, I it.to.x, I it.to.y, I it.to.z, I it.plane, I it.ce.x, I it.ce.y, I it.ce.z, I it.dir, B it.full, I it.feed, B it.perRev, I it.side, I it.radius, I it.blend, I it.n, I it.speed, B it.on] =
   some (1, [.view kPt (((spokesP it).map fun s => spP it.plane (plU it.plane (fine it.ce) + s.u) (plW it.plane (fine it.ce) + s.w) s.h).map ptR)]) := hl
  have hf := hF (bd_mono hc (by decide))
  unfold chordsP
  rw [if_pos h3]
  have hpp := @hP hp (fine it.ce)
  simp only [go_sem, hv, hK, hf, hpp, List.length_map, hl']
  simp only [not_true_eq_false, if_false]
  rfl
 ·rw [if_neg h3] at hK
  have f1 := hF (bd_mono h1 (by decide))
  have f2 := hF (bd_mono h2 (by decide))
  unfold chordsP
  rw [if_neg h3]
  simp only [go_sem, hv, hK, f1, f2]
  simp
theorem s_cncref23_Chords {it : Itm} (h : validI it) : m_cncref23_Chords (itmR it) = some [.view kPt ((chordsP it).map ptR), B true] :=
 a_cncref23_Chords (s_cncref23_Valid it) h (s_cncref23_Spokes h) s_Fine (fun hp => s_Plane hp) (fun hp => s_Space hp)
end Go.Bm
/- the program's lengths, spokes and chords: they are the reference's -/
set_option maxRecDepth 100000
namespace Go.Bm

theorem sq_wrap {a b : Pt} (ha : bd 67108864 a) (hb : bd 67108864 b) :
  IntKind.i64.wrap (IntKind.i64.wrap (IntKind.i64.wrap (0 + IntKind.i64.wrap (IntKind.i64.wrap (a.x - b.x) * IntKind.i64.wrap (a.x - b.x))) + IntKind.i64.wrap (IntKind.i64.wrap (a.y - b.y) * IntKind.i64.wrap (a.y - b.y))) + IntKind.i64.wrap (IntKind.i64.wrap (a.z - b.z) * IntKind.i64.wrap (a.z - b.z))) = sqD a b := by
 have h : ∀ x y : Int, x.natAbs <= 67108864 -> y.natAbs <= 67108864 -> 0 <= (x - y) * (x - y) /\ (x - y) * (x - y) <= 18014398509481984 := by
  intro x y hx hy
  exact sq_bd (x := x - y) (A := 134217728) (by omega)
 have h1 := h _ _ ha.1 hb.1
 have h2 := h _ _ ha.2.1 hb.2.1
 have h3 := h _ _ ha.2.2 hb.2.2
 obtain ⟨a1, a2, a3⟩ := ha
 obtain ⟨b1, b2, b3⟩ := hb
 rw [wrap_id (x := a.x - b.x) (by omega), wrap_id (x := a.y - b.y) (by omega), wrap_id (x := a.z - b.z) (by omega)]
 unfold sqD dotP subP
 simp only
 generalize (a.x - b.x) * (a.x - b.x) = u at *
 generalize (a.y - b.y) * (a.y - b.y) = v at *
 generalize (a.z - b.z) * (a.z - b.z) = w at *
 rw [wrap_id (x := u) (by omega), wrap_id (x := 0 + u) (by omega), wrap_id (x := v) (by omega), wrap_id (x := 0 + u + v) (by omega), wrap_id (x := w) (by omega), wrap_id (by omega), Int.zero_add]
theorem a_curve_Length {M : List AC -> Option (List AC)} {a b : Pt} {n : Nat} (ha : bd 67108864 a) (hb : bd 67108864 b) (hn : sqD a b = n)
  (hM : ∃ r : Nat, M [I n, I 1] = some [I ((if ((1 : Int) = 1 /\ r * r < n) \/ ((1 : Int) = 2 /\ r * r + r < n) then r + 1 else r : Nat) : Int), B true] /\ r * r <= n /\ n < (r + 1) * (r + 1)) :
  mf_curve_Length M [I a.x, I a.y, I a.z, I b.x, I b.y, I b.z] = some [I (lenP a b)] := by
 obtain ⟨r, h1, h2, h3⟩ := hM
 have hu := isUp_nat h2 h3
 rw [mf_curve_Length_eq, sq_wrap ha hb, hn]
 simp only [go_sem, h1]
 unfold lenP
 rw [hn, upR_of hu]
 congr 3
 by_cases c : r * r < n
 ·rw [if_pos (.inl ⟨trivial, c⟩), if_pos c]
 ·rw [if_neg (by simp [c]), if_neg c]
theorem s_curve_Length {a b : Pt} (ha : bd 67108864 a) (hb : bd 67108864 b) : m_curve_Length [I a.x, I a.y, I a.z, I b.x, I b.y, I b.z] = some [I (lenP a b)] := by
 have h0 := sqD_nn a b
 have h1 := sqD_le ha hb (Nat.le_refl _)
 obtain ⟨n, hn⟩ := Int.eq_ofNat_of_zero_le h0
 exact a_curve_Length ha hb hn (s_wide_Sqrt (by omega) (.inl rfl))

end Go.Bm
/- the program's chords are the reference's -/
set_option maxRecDepth 100000
namespace Go.Bm

end Go.Bm
/- the program's corners are the reference's -/
set_option maxRecDepth 100000
namespace Go.Bm

end Go.Bm
/- the programmed speed of a motion -/
set_option maxRecDepth 100000
namespace Go.Bm
def rate (t : Itm) (speed : Int) : Int := if t.kind = 1 then 0 else mx (near (mn (if t.perRev = true then t.feed * mx speed 1 else t.feed) 60000000 * 4096) 60000) 1
theorem feed_bd {f s : Int} (hf : 0 <= f /\ f <= 60000000) (hs : 0 <= s /\ s <= 30000) : 0 <= f * mx s 1 /\ f * mx s 1 <= 1800000000000 := by
 have h1 : 1 <= mx s 1 /\ mx s 1 <= 30000 := by unfold mx; split <;> omega
 generalize mx s 1 = m at *
 have h2 := Int.mul_le_mul hf.2 h1.2 (by omega) (by omega)
 have h3 := Int.mul_nonneg hf.1 (show 0 <= m by omega)
 omega
theorem mn_bd {x : Int} (h : 0 <= x) : 0 <= mn x 60000000 /\ mn x 60000000 <= 60000000 := by unfold mn; split <;> omega
theorem a_cncref25_Rate {M : List AC -> Option (List AC)} {t : Itm} {speed : Int} (hf : 0 <= t.feed /\ t.feed <= 60000000) (hs : 0 <= speed /\ speed <= 30000)
  (hM : ∀ a : Int, 0 <= a /\ a <= 60000000 -> M [I (a * 4096), I 60000] = some [I (near (a * 4096) 60000)]) : mf_cncref25_Rate M (itmR t ++ [I speed]) = some [I (rate t speed)] := by
 have h1 := feed_bd hf hs
 have b2 := mn_bd h1.1
 have b3 := mn_bd hf.1
 have h2 := hM _ b2
 have h3 := hM _ b3
 have h4 : IntKind.i64.wrap (t.feed * mx speed 1) = t.feed * mx speed 1 := wrap_id (by omega)
 have hw : ∀ a : Int, 0 <= a /\ a <= 60000000 -> IntKind.i64.wrap (IntKind.i64.wrap (a * 16) * 256) = a * 4096 := by
  intro a ha
  rw [wrap_id (x := a * 16) (by omega), wrap_id (by omega)]
  omega
 simp only [itmR, List.cons_append, List.nil_append]
 rw [mf_cncref25_Rate_eq, h4, hw _ b2, hw _ b3]
 simp only [go_sem, h2, h3]
 unfold rate
 by_cases g1 : t.kind = 1
 ·rw [if_pos g1, if_pos g1]
 ·rw [if_neg g1, if_neg g1]
  by_cases g2 : t.perRev = true
  ·rw [if_pos g2, if_pos g2]
  ·rw [if_neg g2, if_neg g2]
theorem s_cncref25_Rate {t : Itm} {speed : Int} (hf : 0 <= t.feed /\ t.feed <= 60000000) (hs : 0 <= speed /\ speed <= 30000) : m_cncref25_Rate (itmR t ++ [I speed]) = some [I (rate t speed)] :=
 a_cncref25_Rate hf hs fun a ha => s_cncref24_Rounded (by omega) (by omega)
end Go.Bm
