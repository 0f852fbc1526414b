/- laid together -/
import Derived.Test.YtdllaekpkcanbaaGreatPrH
import Derived.Test.YtdllaekpkcanbaaGreatPrE0
import Derived.Test.YtdllaekpkcanbaaGreatMx5
set_option linter.unusedVariables false
set_option linter.unusedSimpArgs false
/- the items that the laws' maker of items gives: arcs, motions, lists of motions -/
set_option maxRecDepth 100000
namespace Go.Bm

def plU (pl : Int) (p : Pt) : Int := if pl = 17 then p.x else if pl = 18 then p.z else p.y
def plW (pl : Int) (p : Pt) : Int := if pl = 17 then p.y else if pl = 18 then p.x else p.z
def plH (pl : Int) (p : Pt) : Int := if pl = 17 then p.z else if pl = 18 then p.y else p.x
def spP (pl u w h : Int) : Pt := if pl = 17 then ⟨u, w, h⟩ else if pl = 18 then ⟨w, h, u⟩ else ⟨h, u, w⟩
def isPl (pl : Int) : Prop := pl = 17 \/ pl = 18 \/ pl = 19
theorem s_Plane {p : Pt} {pl : Int} (h : isPl pl) : m_cncref23_Plane [I p.x, I p.y, I p.z, I pl] = some [I (plU pl p), I (plW pl p), I (plH pl p)] := by
 unfold m_cncref23_Plane
 rw [mf_cncref23_Plane_eq]
 rcases h with rfl | rfl | rfl <;> rfl
theorem s_Space {u w h pl : Int} (hp : isPl pl) : m_cncref23_Space [I u, I w, I h, I pl] = some (ptR (spP pl u w h)) := by
 unfold m_cncref23_Space
 rw [mf_cncref23_Space_eq]
 rcases hp with rfl | rfl | rfl <;> rfl
structure ArcMade (size : Int) (it : Itm) : Prop where
 kind : it.kind = 3
 plane : isPl it.plane
 dir : it.dir = 1 \/ it.dir = -1
 ends : ∃ r k t g h : Int, 8 <= r /\ r < 8 + size /\ 0 <= k /\ k <= 3 /\ 0 <= t /\ t <= 3 /\ 0 <= g /\ g <= 4 /\ (h = 0 \/ h = 7 \/ h = -12) /\ (t = 0 -> g = 0) /\ it.full = decide (t = 0) /\
  it.ce = spP it.plane (plU it.plane it.fr - rotU r k) (plW it.plane it.fr - rotW r k) (plH it.plane it.fr) /\
  it.to = spP it.plane (plU it.plane it.fr - rotU r k + rotU (r + g) (k + t)) (plW it.plane it.fr - rotW r k + rotW (r + g) (k + t)) (plH it.plane it.fr + h)

theorem rot_bd {r k : Int} (hr : 0 <= r) : (-r <= rotU r k /\ rotU r k <= r) /\ (-r <= rotW r k /\ rotW r k <= r) := by
 unfold rotU rotW
 constructor <;> constructor <;> split <;> (try split) <;> omega
theorem rot_div {r : Int} (hr : 1 <= r) (k : Int) : ((rotU r k).tdiv r = rotU 1 k) /\ ((rotW r k).tdiv r = rotW 1 k) := by
 have h1 : r.tdiv r = 1 := Int.tdiv_self (by omega)
 have h2 : (-r).tdiv r = -1 := by rw [Int.neg_tdiv, h1]
 unfold rotU rotW
 constructor <;> split <;> (try split) <;> simp [h1, h2]
theorem rot_far (r k e f : Int) : ∃ g, (g = e \/ g = f) /\ rotU r k + rotU 1 k * e = rotU (r + g) k /\ rotW r k + rotW 1 k * f = rotW (r + g) k := by
 unfold rotU rotW
 by_cases h : k % 4 = 0 \/ k % 4 = 2
 ·refine ⟨e, .inl rfl, ?_, ?_⟩
  ·rcases h with h | h <;> simp [h] <;> omega
  ·rcases h with h | h <;> simp [h]
 ·have hc : k % 4 = 1 \/ k % 4 = 3 := by omega
  refine ⟨f, .inr rfl, ?_, ?_⟩
  ·rcases hc with h | h <;> simp [h]
  ·rcases hc with h | h <;> simp [h] <;> omega
theorem pl_bd {pl : Int} {p : Pt} {b : Nat} (h : bd b p) : (plU pl p).natAbs <= b /\ (plW pl p).natAbs <= b /\ (plH pl p).natAbs <= b := by
 obtain ⟨h1, h2, h3⟩ := h
 unfold plU plW plH
 refine ⟨?_, ?_, ?_⟩ <;> split <;> (try split) <;> assumption

def NextOK (l : List (List AC)) (M : List AC -> Option (List AC)) : Prop := ∀ (k : Nat) {n : Int}, 0 < n /\ n <= 4611686018427387904 ->
  ∃ (v : Int) (k' : Nat), M [I n, .view kInts l, I k] = some [I v, .view kInts l, I k'] /\ 0 <= v /\ v < n /\ k <= k' /\ (k < l.length -> k' = k + 1) /\ (l.length <= k -> k' = k)
abbrev blank (it : Itm) : Prop := it.block = 0 /\ it.side = 0 /\ it.radius = 0 /\ it.speed = 0 /\ it.on = false
theorem plane_at {v : Int} (h : 0 <= v /\ v < 3) : intOf (nth .dead (nth [] [[I 17], [I 18], [I 19]] v.toNat) 0) = 17 + v := by
 have hc : v = 0 \/ v = 1 \/ v = 2 := by omega
 rcases hc with rfl | rfl | rfl <;> rfl
theorem height_at {v : Int} (h : 0 <= v /\ v < 4) : ∃ x, intOf (nth .dead (nth [] [[I 0], [I 0], [I 7], [I (-12)]] v.toNat) 0) = x /\ (x = 0 \/ x = 7 \/ x = -12) := by
 have hc : v = 0 \/ v = 1 \/ v = 2 \/ v = 3 := by omega
 rcases hc with rfl | rfl | rfl | rfl <;> exact ⟨_, rfl, by decide⟩

theorem a_arc {MS MT MP MN : List AC -> Option (List AC)} {l : List (List AC)} (hN : NextOK l MN)
  (hP : ∀ {p : Pt} {pl : Int}, isPl pl -> MP [I p.x, I p.y, I p.z, I pl] = some [I (plU pl p), I (plW pl p), I (plH pl p)])
  (hS : ∀ {u w h pl : Int}, isPl pl -> MS [I u, I w, I h, I pl] = some (ptR (spP pl u w h)))
  (hT : ∀ {r k : Int}, (0 <= r /\ r <= 1000000) -> (0 <= k /\ k <= 1000) -> MT [I r, I k] = some [I (rotU r k), I (rotW r k)])
  {p : Pt} (hp : bd 100000000 p) {size : Int} (hs : 0 < size /\ size <= 100000) (k : Nat) :
  ∃ (it : Itm) (k' : Nat), mf_cncmill_arc MS MT MP MN [I p.x, I p.y, I p.z, I size, .view kInts l, I k] = some (itmR it ++ [.view kInts l, I k']) /\ k <= k' /\ it.fr = p /\ ArcMade size it /\
   it.feed = 0 /\ it.perRev = false /\ it.blend = 0 /\ it.n = 0 /\ blank it := by
 obtain ⟨v1, k1, e1, a1, b1, c1, -, -⟩ := hN k (n := 3) (by omega)
 obtain ⟨v2, k2, e2, a2, b2, c2, -, -⟩ := hN k1 (n := 2) (by omega)
 obtain ⟨v3, k3, e3, a3, b3, c3, -, -⟩ := hN k2 (n := size) (by omega)
 obtain ⟨v4, k4, e4, a4, b4, c4, -, -⟩ := hN k3 (n := 4) (by omega)
 obtain ⟨v5, k5, e5, a5, b5, c5, -, -⟩ := hN k4 (n := 4) (by omega)
 rw [mf_cncmill_arc_eq]
 simp only [go_sem, e1, e2, e3, e4, e5]
 rw [if_pos (by simp; omega)]
 have hpl : isPl (17 + v1) := by unfold isPl; omega
 have w1 : IntKind.i64.wrap (8 + v3) = 8 + v3 := wrap_id (by omega)
 have w2 : IntKind.i64.wrap (v4 + v5) = v4 + v5 := wrap_id (by omega)
 simp only [plane_at ⟨a1, b1⟩, hP hpl, go_sem, w1, w2, hT (r := 8 + v3) (k := v4) (by omega) (by omega), hT (r := 8 + v3) (k := v4 + v5) (by omega) (by omega), hS hpl]
 obtain ⟨q1, q2, q3⟩ := pl_bd (pl := 17 + v1) hp
 obtain ⟨⟨r1, r2⟩, r3, r4⟩ := rot_bd (r := 8 + v3) (k := v4) (by omega)
 obtain ⟨⟨r5, r6⟩, r7, r8⟩ := rot_bd (r := 8 + v3) (k := v4 + v5) (by omega)
 obtain ⟨d1, d2⟩ := rot_div (r := 8 + v3) (by omega) (v4 + v5)
 obtain ⟨⟨r9, r10⟩, r11, r12⟩ := rot_bd (r := 1) (k := v4 + v5) (by omega)
 have w3 : IntKind.i64.wrap (plU (17 + v1) p - rotU (8 + v3) v4) = plU (17 + v1) p - rotU (8 + v3) v4 := wrap_id (by omega)
 have w4 : IntKind.i64.wrap (plW (17 + v1) p - rotW (8 + v3) v4) = plW (17 + v1) p - rotW (8 + v3) v4 := wrap_id (by omega)
 have w5 : IntKind.i64.wrap (1 - IntKind.i64.wrap (v2 * 2)) = 1 - v2 * 2 := by rw [wrap_id (x := v2 * 2) (by omega), wrap_id (by omega)]
 have w6 : IntKind.i64.wrap (plU (17 + v1) p - rotU (8 + v3) v4 + rotU (8 + v3) (v4 + v5)) = plU (17 + v1) p - rotU (8 + v3) v4 + rotU (8 + v3) (v4 + v5) := wrap_id (by omega)
 have w7 : IntKind.i64.wrap (plW (17 + v1) p - rotW (8 + v3) v4 + rotW (8 + v3) (v4 + v5)) = plW (17 + v1) p - rotW (8 + v3) v4 + rotW (8 + v3) (v4 + v5) := wrap_id (by omega)
 rw [w3, w4, w5, w6, w7]
 have hdir : 1 - v2 * 2 = 1 \/ 1 - v2 * 2 = -1 := by omega
 -- the last steps of all three ways
 have fin : ∀ (g : Int) (u w : Int) (k8 : Nat), k5 <= k8 -> 0 <= g -> g <= 4 -> (v5 = 0 -> g = 0) -> u = rotU (8 + v3 + g) (v4 + v5) -> w = rotW (8 + v3 + g) (v4 + v5) -> ∀ v9 : Int, 0 <= v9 /\ v9 < 4 ->
   ∃ it : Itm, [I 3, I 0, I p.x, I p.y, I p.z, I (spP (17 + v1) (plU (17 + v1) p - rotU (8 + v3) v4 + u) (plW (17 + v1) p - rotW (8 + v3) v4 + w) (plH (17 + v1) p + intOf (nth .dead (nth [] [[I 0], [I 0], [I 7], [I (-12)]] v9.toNat) 0))).x,
    I (spP (17 + v1) (plU (17 + v1) p - rotU (8 + v3) v4 + u) (plW (17 + v1) p - rotW (8 + v3) v4 + w) (plH (17 + v1) p + intOf (nth .dead (nth [] [[I 0], [I 0], [I 7], [I (-12)]] v9.toNat) 0))).y,
    I (spP (17 + v1) (plU (17 + v1) p - rotU (8 + v3) v4 + u) (plW (17 + v1) p - rotW (8 + v3) v4 + w) (plH (17 + v1) p + intOf (nth .dead (nth [] [[I 0], [I 0], [I 7], [I (-12)]] v9.toNat) 0))).z,
    I (17 + v1), I (spP (17 + v1) (plU (17 + v1) p - rotU (8 + v3) v4) (plW (17 + v1) p - rotW (8 + v3) v4) (plH (17 + v1) p)).x, I (spP (17 + v1) (plU (17 + v1) p - rotU (8 + v3) v4) (plW (17 + v1) p - rotW (8 + v3) v4) (plH (17 + v1) p)).y, I (spP (17 + v1) (plU (17 + v1) p - rotU (8 + v3) v4) (plW (17 + v1) p - rotW (8 + v3) v4) (plH (17 + v1) p)).z,
    I (1 - v2 * 2), B (decide (v5 = 0)), I 0, B false, I 0, I 0, I 0, I 0, I 0, B false, .view kInts l, I k8] = itmR it ++ [.view kInts l, I k8] /\ it.fr = p /\ ArcMade size it /\ it.feed = 0 /\ it.perRev = false /\ it.blend = 0 /\ it.n = 0 /\ blank it := by
  intro g u w k8 hk8 hg0 hg4 hg5 hu hw v9 hv9
  obtain ⟨x, hx, hx3⟩ := height_at hv9
  rw [hx]
  refine ⟨⟨3, 0, p, _, 17 + v1, _, 1 - v2 * 2, decide (v5 = 0), 0, false, 0, 0, 0, 0, 0, false⟩, rfl, rfl, ⟨rfl, hpl, hdir, 8 + v3, v4, v5, g, x, ?_⟩, rfl, rfl, rfl, rfl, rfl, rfl, rfl, rfl, rfl⟩
  subst hu hw
  exact ⟨by omega, by omega, by omega, by omega, by omega, by omega, hg0, hg4, hx3, hg5, rfl, rfl, rfl⟩
 have hgh : ∀ v9 : Int, 0 <= v9 /\ v9 < 4 -> IntKind.i64.wrap (plH (17 + v1) p + intOf (nth .dead (nth [] [[I 0], [I 0], [I 7], [I (-12)]] v9.toNat) 0)) = plH (17 + v1) p + intOf (nth .dead (nth [] [[I 0], [I 0], [I 7], [I (-12)]] v9.toNat) 0) := by
  intro v9 hv9
  obtain ⟨x, hx, hx3⟩ := height_at hv9
  rw [hx]
  exact wrap_id (by omega)
 have hfull : (v5 == 0) = decide (v5 = 0) := rfl
 by_cases hv5 : v5 > 0
 ·rw [if_pos hv5]
  obtain ⟨v6, k6, e6, a6, b6, c6, -, -⟩ := hN k5 (n := 3) (by omega)
  simp only [go_sem, e6]
  by_cases hv6 : v6 = 0
  ·rw [if_pos hv6, if_neg (by omega)]
   obtain ⟨v7, k7, e7, a7, b7, c7, -, -⟩ := hN k6 (n := 5) (by omega)
   obtain ⟨v8, k8, e8, a8, b8, c8, -, -⟩ := hN k7 (n := 5) (by omega)
   obtain ⟨v9, k9, e9, a9, b9, c9, -, -⟩ := hN k8 (n := 4) (by omega)
   simp only [go_sem, e7, e8, e9]
   rw [if_neg (by omega), if_pos (by simp; omega), hgh v9 ⟨a9, b9⟩, d1, d2]
   obtain ⟨g, hg, hu, hw⟩ := rot_far (8 + v3) (v4 + v5) v7 v8
   have mu : -4 <= rotU 1 (v4 + v5) * v7 /\ rotU 1 (v4 + v5) * v7 <= 4 := by
    have hc : rotU 1 (v4 + v5) = -1 \/ rotU 1 (v4 + v5) = 0 \/ rotU 1 (v4 + v5) = 1 := by omega
    rcases hc with h | h | h <;> rw [h] <;> omega
   have mw : -4 <= rotW 1 (v4 + v5) * v8 /\ rotW 1 (v4 + v5) * v8 <= 4 := by
    have hc : rotW 1 (v4 + v5) = -1 \/ rotW 1 (v4 + v5) = 0 \/ rotW 1 (v4 + v5) = 1 := by omega
    rcases hc with h | h | h <;> rw [h] <;> omega
   rw [wrap_id (x := rotU 1 (v4 + v5)) (by omega), wrap_id (x := rotW 1 (v4 + v5)) (by omega), wrap_id (x := rotU 1 (v4 + v5) * v7) (by omega), wrap_id (x := rotW 1 (v4 + v5) * v8) (by omega),
    wrap_id (x := rotU (8 + v3) (v4 + v5) + _) (by omega), wrap_id (x := rotW (8 + v3) (v4 + v5) + _) (by omega), hu, hw]
   obtain ⟨⟨s1, s2⟩, s3, s4⟩ := rot_bd (r := 8 + v3 + g) (k := v4 + v5) (by omega)
   rw [wrap_id (x := _ + rotU (8 + v3 + g) (v4 + v5)) (by omega), wrap_id (x := _ + rotW (8 + v3 + g) (v4 + v5)) (by omega)]
   obtain ⟨it, h1, h2⟩ := fin g _ _ k9 (by omega) (by omega) (by omega) (by omega) rfl rfl v9 ⟨a9, b9⟩
   refine ⟨it, k9, ?_, by omega, h2⟩
   exact congrArg some h1
  ·rw [if_neg hv6]
   obtain ⟨v9, k9, e9, a9, b9, c9, -, -⟩ := hN k6 (n := 4) (by omega)
   simp only [go_sem, e9]
   rw [if_pos (by simp; omega), hgh v9 ⟨a9, b9⟩]
   obtain ⟨it, h1, h2⟩ := fin 0 _ _ k9 (by omega) (by omega) (by omega) (by omega) (by rw [Int.add_zero]) (by rw [Int.add_zero]) v9 ⟨a9, b9⟩
   refine ⟨it, k9, ?_, by omega, h2⟩
   exact congrArg some h1
 ·rw [if_neg hv5]
  obtain ⟨v9, k9, e9, a9, b9, c9, -, -⟩ := hN k5 (n := 4) (by omega)
  simp only [go_sem, e9]
  rw [if_pos (by simp; omega), hgh v9 ⟨a9, b9⟩]
  obtain ⟨it, h1, h2⟩ := fin 0 _ _ k9 (by omega) (by omega) (by omega) (by omega) (by rw [Int.add_zero]) (by rw [Int.add_zero]) v9 ⟨a9, b9⟩
  refine ⟨it, k9, ?_, by omega, h2⟩
  exact congrArg some h1
theorem nextOK {l : List (List AC)} (hl : Src l) : NextOK l m_cncmill_Source_Next := fun k _ hn => s_Next hl k hn
theorem s_arc {l : List (List AC)} (hl : Src l) {p : Pt} (hp : bd 100000000 p) {size : Int} (hs : 0 < size /\ size <= 100000) (k : Nat) :
  ∃ (it : Itm) (k' : Nat), m_cncmill_arc [I p.x, I p.y, I p.z, I size, .view kInts l, I k] = some (itmR it ++ [.view kInts l, I k']) /\ k <= k' /\ it.fr = p /\ ArcMade size it /\
   it.feed = 0 /\ it.perRev = false /\ it.blend = 0 /\ it.n = 0 /\ blank it :=
 a_arc (nextOK hl) s_Plane s_Space s_turned hp hs k
end Go.Bm
/- motions and lists of motions, as the maker makes them -/
set_option maxRecDepth 100000
namespace Go.Bm

structure Made (it : Itm) : Prop where
 kind : 1 <= it.kind /\ it.kind <= 6
 line : it.kind ≠ 3 -> (it.to.x - it.fr.x).natAbs <= 16 /\ (it.to.y - it.fr.y).natAbs <= 16 /\ (it.to.z - it.fr.z).natAbs <= 16
 arc : it.kind = 3 -> ArcMade 8 it
 feed : it.kind ≠ 1 -> 1 <= it.feed /\ it.feed <= 60000000
 blend : 0 <= it.blend /\ it.blend <= 9
 sync : it.kind = 5 \/ it.kind = 6 -> it.blend = 0 /\ it.feed <= 60
 free : it.kind <= 4 -> it.perRev = false
 full : it.kind ≠ 3 -> it.full = false
theorem feed_at {v : Int} (h : 0 <= v /\ v < 5) : ∃ x, intOf (nth .dead (nth [] [[I 300000], [I 1], [I 60000], [I 2000000], [I 60000000]] v.toNat) 0) = x /\ 1 <= x /\ x <= 60000000 := by
 have hc : v = 0 \/ v = 1 \/ v = 2 \/ v = 3 \/ v = 4 := by omega
 rcases hc with rfl | rfl | rfl | rfl | rfl <;> exact ⟨_, rfl, by decide⟩
theorem blend_at {v : Int} (h : 0 <= v /\ v < 5) : ∃ x, intOf (nth .dead (nth [] [[I 0], [I 1], [I 2], [I 4], [I 9]] v.toNat) 0) = x /\ 0 <= x /\ x <= 9 := by
 have hc : v = 0 \/ v = 1 \/ v = 2 \/ v = 3 \/ v = 4 := by omega
 rcases hc with rfl | rfl | rfl | rfl | rfl <;> exact ⟨_, rfl, by decide⟩
theorem arc_upd {size : Int} {it : Itm} (h : ArcMade size it) (f b : Int) (pr : Bool) (n : Int) : ArcMade size { it with feed := f, blend := b, perRev := pr, n := n } := ⟨h.kind, h.plane, h.dir, h.ends⟩

theorem a_motion {MA MN : List AC -> Option (List AC)} {l : List (List AC)} (hN : NextOK l MN)
  (hA : ∀ {p : Pt}, bd 100000000 p -> ∀ k : Nat, ∃ (it : Itm) (k' : Nat), MA [I p.x, I p.y, I p.z, I 8, .view kInts l, I k] = some (itmR it ++ [.view kInts l, I k']) /\ k <= k' /\ it.fr = p /\ ArcMade 8 it /\ it.feed = 0 /\ it.perRev = false /\ it.blend = 0 /\ it.n = 0 /\ blank it)
  {p : Pt} (hp : bd 100000000 p) {kind : Int} (hk : 1 <= kind /\ kind <= 6) (k : Nat) :
  ∃ (it : Itm) (k' : Nat), mf_cncmill_motion MN MA [I p.x, I p.y, I p.z, I kind, .view kInts l, I k] = some (itmR it ++ [.view kInts l, I k']) /\ k <= k' /\ it.fr = p /\ it.kind = kind /\ Made it /\ blank it := by
 rw [mf_cncmill_motion_eq]
 obtain ⟨hp1, hp2, hp3⟩ := hp
 by_cases h3 : kind = 3
 ·subst h3
  obtain ⟨it, k1, e1, c1, g1, g2, g3, g4, g5, g6, g7, g8, g9, g10, g11⟩ := hA ⟨hp1, hp2, hp3⟩ k
  obtain ⟨v2, k2, e2, a2, b2, c2, -, -⟩ := hN k1 (n := 5) (by omega)
  obtain ⟨v3, k3, e3, a3, b3, c3, -, -⟩ := hN k2 (n := 5) (by omega)
  simp only [go_sem, e1, itmR, List.cons_append, List.nil_append, e2, e3]
  rw [if_neg (by omega), if_pos (by simp; omega), if_pos (by simp; omega), if_neg (by omega), if_neg (by omega), if_neg (by omega)]
  obtain ⟨f, hf, hf1, hf2⟩ := feed_at ⟨a2, b2⟩
  obtain ⟨b, hb, hb1, hb2⟩ := blend_at ⟨a3, b3⟩
  rw [hf, hb]
  have hka := g2.kind
  refine ⟨{ it with feed := f, blend := b, perRev := it.perRev, n := it.n }, k3, rfl, by omega, g1, hka, ⟨?_, ?_, ?_, ?_, ?_, ?_, ?_, ?_⟩, g7, g8, g9, g10, g11⟩
  ·show 1 <= it.kind /\ it.kind <= 6; omega
  ·exact fun h => absurd hka h
  ·exact fun _ => arc_upd g2 f b _ _
  ·exact fun _ => ⟨hf1, hf2⟩
  ·exact ⟨hb1, hb2⟩
  ·intro h; change it.kind = 5 \/ it.kind = 6 at h; omega
  ·exact fun _ => g4
  ·exact fun h => absurd hka h
 ·simp only [go_sem]
  rw [if_neg h3]
  obtain ⟨v1, k1, e1, a1, b1, c1, -, -⟩ := hN k (n := 25) (by omega)
  obtain ⟨v2, k2, e2, a2, b2, c2, -, -⟩ := hN k1 (n := 25) (by omega)
  obtain ⟨v3, k3, e3, a3, b3, c3, -, -⟩ := hN k2 (n := 3) (by omega)
  obtain ⟨v4, k4, e4, a4, b4, c4, -, -⟩ := hN k3 (n := 9) (by omega)
  obtain ⟨v5, k5, e5, a5, b5, c5, -, -⟩ := hN k4 (n := 2) (by omega)
  simp only [go_sem, e1, e2, e3, e4, e5]
  have hm : 0 <= v3 * v4 /\ v3 * v4 <= 16 := by
   have hc : v3 = 0 \/ v3 = 1 \/ v3 = 2 := by omega
   rcases hc with rfl | rfl | rfl <;> omega
  generalize v3 * v4 = m at hm
  have w1 : IntKind.i64.wrap (IntKind.i64.wrap (p.x + v1) - 12) = p.x + v1 - 12 := by rw [wrap_id (x := p.x + v1) (by omega), wrap_id (by omega)]
  have w2 : IntKind.i64.wrap (IntKind.i64.wrap (p.y + v2) - 12) = p.y + v2 - 12 := by rw [wrap_id (x := p.y + v2) (by omega), wrap_id (by omega)]
  have w3 : IntKind.i64.wrap (IntKind.i64.wrap (p.z + IntKind.i64.wrap m) - IntKind.i64.wrap (8 * v5)) = p.z + m - 8 * v5 := by
   rw [wrap_id (x := m) (by omega), wrap_id (x := p.z + m) (by omega), wrap_id (x := 8 * v5) (by omega), wrap_id (by omega)]
  rw [w1, w2, w3]
  -- the item, whatever its kind
  have mk : ∀ (f b n : Int) (pr : Bool), (kind ≠ 1 -> 1 <= f /\ f <= 60000000) -> (0 <= b /\ b <= 9) -> (kind = 5 \/ kind = 6 -> b = 0 /\ f <= 60) -> (kind <= 4 -> pr = false) ->
    ∃ it : Itm, itmR it = [I kind, I 0, I p.x, I p.y, I p.z, I (p.x + v1 - 12), I (p.y + v2 - 12), I (p.z + m - 8 * v5), I 0, I 0, I 0, I 0, I 0, B false, I f, B pr, I 0, I 0, I b, I n, I 0, B false] /\ it.fr = p /\ it.kind = kind /\ Made it /\ blank it := by
   intro f b n pr h1 h2 h4 h5
   refine ⟨⟨kind, 0, p, ⟨p.x + v1 - 12, p.y + v2 - 12, p.z + m - 8 * v5⟩, 0, ⟨0, 0, 0⟩, 0, false, f, pr, 0, 0, b, n, 0, false⟩, rfl, rfl, rfl, ⟨hk, fun _ => ?_, fun h => absurd h h3, h1, h2, h4, h5, fun _ => rfl⟩, rfl, rfl, rfl, rfl, rfl⟩
   show (p.x + v1 - 12 - p.x).natAbs <= 16 /\ (p.y + v2 - 12 - p.y).natAbs <= 16 /\ (p.z + m - 8 * v5 - p.z).natAbs <= 16
   omega
  have en : ∀ (f b n : Int) (pr : Bool) (k' : Nat), k <= k' -> (kind ≠ 1 -> 1 <= f /\ f <= 60000000) -> (0 <= b /\ b <= 9) -> (kind = 5 \/ kind = 6 -> b = 0 /\ f <= 60) -> (kind <= 4 -> pr = false) ->
    ∃ (it : Itm) (k'' : Nat), some [I kind, I 0, I p.x, I p.y, I p.z, I (p.x + v1 - 12), I (p.y + v2 - 12), I (p.z + m - 8 * v5), I 0, I 0, I 0, I 0, I 0, B false, I f, B pr, I 0, I 0, I b, I n, I 0, B false, .view kInts l, I k'] = some (itmR it ++ [.view kInts l, I k'']) /\ k <= k'' /\ it.fr = p /\ it.kind = kind /\ Made it /\ blank it := by
   intro f b n pr k' h0 h1 h2 h4 h5
   obtain ⟨it, i1, i2⟩ := mk f b n pr h1 h2 h4 h5
   refine ⟨it, k', ?_, h0, i2⟩
   rw [i1]
   rfl
  by_cases h1 : kind = 1
  ·rw [if_pos h1]
   exact en _ _ _ _ _ (by omega) (fun h => absurd h1 h) (by omega) (by omega) (fun _ => rfl)
  ·rw [if_neg h1]
   obtain ⟨v6, k6, e6, a6, b6, c6, -, -⟩ := hN k5 (n := 5) (by omega)
   obtain ⟨v7, k7, e7, a7, b7, c7, -, -⟩ := hN k6 (n := 5) (by omega)
   obtain ⟨v8, k8, e8, a8, b8, c8, -, -⟩ := hN k7 (n := 60) (by omega)
   obtain ⟨v9, k9, e9, a9, b9, c9, -, -⟩ := hN k8 (n := 2) (by omega)
   simp only [go_sem, e6, e7, e8, e9]
   rw [if_pos (by simp; omega), if_pos (by simp; omega)]
   obtain ⟨f, hf, hf1, hf2⟩ := feed_at ⟨a6, b6⟩
   obtain ⟨b, hb, hb1, hb2⟩ := blend_at ⟨a7, b7⟩
   rw [hf, hb, wrap_id (x := 1 + v8) (by omega), wrap_id (x := 3 + v9) (by omega)]
   by_cases h5 : kind = 5
   ·rw [if_pos h5, if_neg (by omega)]
    exact en _ _ _ _ _ (by omega) (by omega) (by omega) (by omega) (by omega)
   ·rw [if_neg h5]
    by_cases h6 : kind = 6
    ·rw [if_pos h6, if_pos h6]
     exact en _ _ _ _ _ (by omega) (by omega) (by omega) (by omega) (by omega)
    ·rw [if_neg h6]
     by_cases h4 : kind = 4
     ·rw [if_pos h4]
      exact en _ _ _ _ _ (by omega) (by omega) (by omega) (by omega) (fun _ => rfl)
     ·rw [if_neg h4]
      exact en _ _ _ _ _ (by omega) (by omega) (by omega) (by omega) (fun _ => rfl)
theorem s_motion {l : List (List AC)} (hl : Src l) {p : Pt} (hp : bd 100000000 p) {kind : Int} (hk : 1 <= kind /\ kind <= 6) (k : Nat) :
  ∃ (it : Itm) (k' : Nat), m_cncmill_motion [I p.x, I p.y, I p.z, I kind, .view kInts l, I k] = some (itmR it ++ [.view kInts l, I k']) /\ k <= k' /\ it.fr = p /\ it.kind = kind /\ Made it /\ blank it :=
 a_motion (nextOK hl) (fun hp k => s_arc hl hp (by omega) k) hp hk k
end Go.Bm
/- the maker's list of motions -/
set_option maxRecDepth 100000
namespace Go.Bm

def Chained : Pt -> List Itm -> Prop
 | _, [] => True
 | p, it :: l => it.fr = p /\ Chained it.to l
def lastTo : Pt -> List Itm -> Pt
 | p, [] => p
 | _, it :: l => lastTo it.to l
theorem chained_snoc {p : Pt} {it : Itm} : ∀ {l : List Itm} {p : Pt}, Chained p l -> it.fr = lastTo p l -> Chained p (l ++ [it])
 | [], _, _, h => ⟨h, trivial⟩
 | _ :: _, _, ⟨h1, h2⟩, h => ⟨h1, chained_snoc (p := p) h2 h⟩
theorem lastTo_snoc {it : Itm} : ∀ {l : List Itm} {p : Pt}, lastTo p (l ++ [it]) = it.to
 | [], _ => rfl
 | _ :: l, _ => lastTo_snoc (l := l)
structure Motions (B : Nat) (p : Pt) (l : List Itm) : Prop where
 chain : Chained p l
 made : ∀ it ∈ l, Made it /\ blank it /\ it.kind <= 3 /\ bd B it.fr /\ bd B it.to
theorem arc_bd {size : Int} {b : Nat} {it : Itm} (h : ArcMade size it) (hs : size <= 1000) (hf : bd b it.fr) : bd (b + 2 * (12 + size.toNat)) it.to /\ bd (b + 8 + size.toNat) it.ce := by
 obtain ⟨r, k, t, g, x, h1, h2, h3, h4, h5, h6, h7, h8, h9, h10, h11, h12, h13⟩ := h.ends
 obtain ⟨q1, q2, q3⟩ := pl_bd (pl := it.plane) hf
 obtain ⟨⟨r1, r2⟩, r3, r4⟩ := rot_bd (r := r) (k := k) (by omega)
 obtain ⟨⟨r5, r6⟩, r7, r8⟩ := rot_bd (r := r + g) (k := k + t) (by omega)
 rw [h12, h13]
 unfold bd spP
 constructor <;> split <;> (try split) <;> refine ⟨?_, ?_, ?_⟩ <;> simp only <;> omega
theorem made_bd {b : Nat} {it : Itm} (h : Made it) (hf : bd b it.fr) : bd (b + 40) it.to := by
 by_cases h3 : it.kind = 3
 ·exact bd_mono (arc_bd (h.arc h3) (by omega) hf).1 (by omega)
 ·obtain ⟨h1, h2, h4⟩ := h.line h3
  obtain ⟨g1, g2, g3⟩ := hf
  exact ⟨by omega, by omega, by omega⟩
theorem kind_at {v : Int} (h : 0 <= v /\ v < 5) : ∃ x, intOf (nth .dead (nth [] [[I 2], [I 2], [I 2], [I 3], [I 1]] v.toNat) 0) = x /\ 1 <= x /\ x <= 3 := by
 have hc : v = 0 \/ v = 1 \/ v = 2 \/ v = 3 \/ v = 4 := by omega
 rcases hc with rfl | rfl | rfl | rfl | rfl <;> exact ⟨_, rfl, by decide⟩

theorem a_MotionsL {MM ML MN MF : List AC -> Option (List AC)} {l : List (List AC)} (hN : NextOK l MN)
  (hM : ∀ {p : Pt}, bd 100000000 p -> ∀ {kind : Int}, (1 <= kind /\ kind <= 6) -> ∀ k : Nat,
   ∃ (it : Itm) (k' : Nat), MM [I p.x, I p.y, I p.z, I kind, .view kInts l, I k] = some (itmR it ++ [.view kInts l, I k']) /\ k <= k' /\ it.fr = p /\ it.kind = kind /\ Made it /\ blank it)
  (hL : ∀ k : Nat, ML [.view kInts l, I k] = some [B (decide (k < l.length)), .view kInts l, I k]) {most : Int} (hm : most <= 1000) {p : Pt} :
  ∀ s : List Itm × Nat, (Motions (4 + 40 * 1000) p s.1 /\ bd (4 + 40 * s.1.length) (lastTo p s.1) /\ (s.1 = [] \/ s.1.length <= most)) ->
   ∃ o, loopC (st_cncmill_Motions_4 MM ML MN MF) [.view kItm (s.1.map itmR), I most, I (lastTo p s.1).x, I (lastTo p s.1).y, I (lastTo p s.1).z, .view kInts l, I s.2] = some o /\ o.1 ≠ 0 /\
    ∃ items, o = (1, [.view kItm (items.map itmR)]) /\ Motions (4 + 40 * 1000) p items /\ (items = [] \/ items.length <= most) := by
 refine loop_nat (S := List Itm × Nat) (fun s => [.view kItm (s.1.map itmR), I most, I (lastTo p s.1).x, I (lastTo p s.1).y, I (lastTo p s.1).z, .view kInts l, I s.2]) _ (fun s => l.length - s.2) _ ?_
 rintro ⟨items, k⟩ ⟨h1, h2, h3⟩
 simp only at h1 h2 h3
 simp only
 rw [st_cncmill_Motions_4_eq]
 simp only [go_sem, hL, List.length_map]
 by_cases c1 : (items.length : Int) < most
 case neg =>
  rw [if_neg c1]
  exact .inr ⟨_, rfl, by simp, items, rfl, h1, h3⟩
 rw [if_pos c1]
 by_cases c2 : k < l.length
 case neg =>
  rw [if_neg (by simpa using c2)]
  exact .inr ⟨_, rfl, by simp, items, rfl, h1, h3⟩
 rw [if_pos (by simpa using c2)]
 obtain ⟨v, k1, e1, a1, b1, d1, d2, -⟩ := hN k (n := 5) (by omega)
 have d3 := d2 c2
 subst d3
 obtain ⟨x, hx, hx1, hx2⟩ := kind_at ⟨a1, b1⟩
 have hpb : bd 100000000 (lastTo p items) := bd_mono h2 (by omega)
 obtain ⟨it, k2, e2, g1, g2, g3, g4, g5⟩ := hM hpb (kind := x) (by omega) (k + 1)
 simp only [go_sem, e1, hx, e2, itmR, List.cons_append, List.nil_append]
 rw [if_pos (by simp; omega), if_pos (by simp; omega)]
 left
 have hb2 := made_bd g4 (by rw [g2]; exact h2)
 have hmost : items.length < 1000 := by omega
 refine ⟨(items ++ [it], k2), ?_, ⟨⟨chained_snoc (p := p) h1.chain g2, ?_⟩, ?_, .inr ?_⟩, ?_⟩
 ·simp only [lastTo_snoc, List.map_append, List.map_cons, List.map_nil, itmR]
 ·intro i hi
  simp only [List.mem_append, List.mem_singleton] at hi
  rcases hi with hi | rfl
  ·exact h1.made i hi
  ·exact ⟨g4, g5, by omega, by rw [g2]; exact bd_mono h2 (by omega), bd_mono hb2 (by omega)⟩
 ·simp only [lastTo_snoc, List.length_append, List.length_singleton]
  exact bd_mono hb2 (by omega)
 ·simp only [List.length_append, List.length_singleton]; omega
 ·simp only; omega
theorem a_Motions {MM ML MN MF : List AC -> Option (List AC)} {N : List AC -> Option (Nat × List AC)} {l : List (List AC)} (hN : NextOK l MN) (hF : MF [.view kInts l] = some [.view kInts l, I 0]) {most : Int}
  (hL : ∀ (p : Pt) (k : Nat), bd 4 p -> ∃ items, N [.view kItm [], I most, I p.x, I p.y, I p.z, .view kInts l, I k] = some (1, [.view kItm (items.map itmR)]) /\ Motions 40004 p items /\ (items = [] \/ items.length <= most)) :
  ∃ (p : Pt) (items : List Itm), mf_cncmill_Motions MM ML MN MF N [.view kInts l, I most] = some [.view kItm (items.map itmR)] /\ Motions 40004 p items /\ (items = [] \/ items.length <= most) := by
 obtain ⟨v1, k1, e1, a1, b1, c1, -, -⟩ := hN 0 (n := 9) (by omega)
 obtain ⟨v2, k2, e2, a2, b2, c2, -, -⟩ := hN k1 (n := 9) (by omega)
 obtain ⟨v3, k3, e3, a3, b3, c3, -, -⟩ := hN k2 (n := 9) (by omega)
 obtain ⟨items, h1, h2, h3⟩ := hL ⟨v1 - 4, v2 - 4, v3 - 4⟩ k3 ⟨by simp only; omega, by simp only; omega, by simp only; omega⟩
 rw [mf_cncmill_Motions_eq]
 have e1' : MN [I 9, .view kInts l, I 0] = some [I v1, .view kInts l, I k1] := e1
 simp only [go_sem, hF, e1', e2, e3]
 rw [wrap_id (x := v1 - 4) (by omega), wrap_id (x := v2 - 4) (by omega), wrap_id (x := v3 - 4) (by omega)]
 simp only [h1, go_sem]
 exact ⟨_, items, rfl, h2, h3⟩
theorem s_Motions {l : List (List AC)} (hl : Src l) {most : Int} (hm : most <= 1000) :
  ∃ (p : Pt) (items : List Itm), m_cncmill_Motions [.view kInts l, I most] = some [.view kItm (items.map itmR)] /\ Motions 40004 p items /\ (items = [] \/ items.length <= most) := by
 refine a_Motions (nextOK hl) (s_From l) fun p k hp => ?_
 obtain ⟨o, h1, -, items, rfl, h3, h4⟩ := a_MotionsL (MF := m_cncmill_From) (nextOK hl) (fun hp _ hk k => s_motion hl hp hk k) (s_Left l) hm (p := p) ([], k) ⟨⟨trivial, by simp⟩, hp, .inl rfl⟩
 exact ⟨items, h1, h3, h4⟩
end Go.Bm
/- which motions can be drawn: the program's answer and the reference's -/
set_option maxRecDepth 100000
namespace Go.Bm

instance (pl : Int) : Decidable (isPl pl) := by unfold isPl; infer_instance
instance (A : Nat) (p : Pt) : Decidable (bd A p) := by unfold bd; infer_instance
def dU (it : Itm) (p : Pt) : Int := plU it.plane p - plU it.plane it.ce
def dW (it : Itm) (p : Pt) : Int := plW it.plane p - plW it.plane it.ce
def sq2 (u w : Int) : Int := u * u + w * w
def crs (u w x y : Int) : Int := u * y - w * x
def dt2 (u w x y : Int) : Int := u * x + w * y
def qA (it : Itm) : Int := sq2 (dU it it.fr) (dW it it.fr)
def qB (it : Itm) : Int := sq2 (dU it it.to) (dW it it.to)
def cAB (it : Itm) : Int := crs (dU it it.fr) (dW it it.fr) (dU it it.to) (dW it it.to)
def dAB (it : Itm) : Int := dt2 (dU it it.fr) (dW it it.fr) (dU it it.to) (dW it it.to)
def nearQ (X Y : Int) : Prop := X + Y - 16 <= 0 \/ (X + Y - 16) * (X + Y - 16) <= 4 * X * Y
def turnOK (it : Itm) : Prop := 64 <= qA it /\ 64 <= qB it /\ nearQ (qA it) (qB it) /\ (it.full = true -> dU it it.fr = dU it it.to /\ dW it it.fr = dW it it.to) /\ (it.full = false -> cAB it ≠ 0 \/ dAB it < 0)
def arcOK (it : Itm) : Prop := isPl it.plane /\ (it.dir = 1 \/ it.dir = -1) /\ bd 1048576 it.ce /\ turnOK it
def validI (it : Itm) : Prop := (1 <= it.kind /\ it.kind <= 6) /\ bd 1048576 it.fr /\ bd 1048576 it.to /\ (it.kind = 3 -> arcOK it)

theorem dU_bd {it : Itm} {p : Pt} {b c : Nat} (hc : bd c it.ce) (h : bd b p) : (dU it p).natAbs <= b + c /\ (dW it p).natAbs <= b + c := by
 obtain ⟨h1, h2, h3⟩ := pl_bd (pl := it.plane) h
 obtain ⟨g1, g2, g3⟩ := pl_bd (pl := it.plane) hc
 unfold dU dW
 omega
theorem sq_nat (x : Int) {b : Nat} (h : x.natAbs <= b) : 0 <= x * x /\ x * x <= ((b * b : Nat) : Int) := by
 have h1 := mul_bd h h
 have h2 : 0 <= x * x := by rw [<- Int.natAbs_mul_self]; omega
 omega
theorem sq2_bd {u w : Int} {b : Nat} (hu : u.natAbs <= b) (hw : w.natAbs <= b) : 0 <= sq2 u w /\ sq2 u w <= ((2 * (b * b) : Nat) : Int) := by
 have h1 := sq_nat u hu
 have h2 := sq_nat w hw
 unfold sq2
 omega
theorem dt2_bd {u w x y : Int} {b c : Nat} (hu : u.natAbs <= b) (hw : w.natAbs <= b) (hx : x.natAbs <= c) (hy : y.natAbs <= c) : (dt2 u w x y).natAbs <= 2 * (b * c) /\ (crs u w x y).natAbs <= 2 * (b * c) := by
 have h1 := mul_bd hu hx
 have h2 := mul_bd hw hy
 have h3 := mul_bd hu hy
 have h4 := mul_bd hw hx
 unfold dt2 crs
 omega
theorem s_cncref23_Motion (k : Int) : m_cncref23_Motion [I k] = some [B (decide (1 <= k /\ k <= 6))] := by
 unfold m_cncref23_Motion
 rw [mf_cncref23_Motion_eq]
 simp only [go_sem]
 by_cases h : k >= 1
 ·rw [if_pos h]; congr 3; simp; omega
 ·rw [if_neg h]; congr 3; simp; omega
theorem a_cncref23_within {M : List AC -> Option (List AC)} {p : Pt} {r : Bool} (h : M [I p.x, I p.y, I p.z, I 1048576] = some [B r]) (hr : r = true ↔ bd 1048576 p) : mf_cncref23_within M [I p.x, I p.y, I p.z] = some [B (decide (bd 1048576 p))] := by
 rw [mf_cncref23_within_eq]
 simp only [go_sem, h]
 congr 3
 rw [Bool.eq_iff_iff, hr]; simp
theorem s_cncref23_within (p : Pt) : m_cncref23_within [I p.x, I p.y, I p.z] = some [B (decide (bd 1048576 p))] := by
 obtain ⟨r, h1, h2⟩ := s_cncref23_small p 1048576 (by omega)
 exact a_cncref23_within h1 h2
theorem s_cncref23_Dot {u w r h x y s g : Int} (hu : u.natAbs <= 1000000000) (hw : w.natAbs <= 1000000000) (hx : x.natAbs <= 1000000000) (hy : y.natAbs <= 1000000000) : m_cncref23_Dot [I u, I w, I r, I h, I x, I y, I s, I g] = some [I (dt2 u w x y)] := by
 unfold m_cncref23_Dot
 rw [mf_cncref23_Dot_eq]
 have h1 := mul_bd hu hx
 have h2 := mul_bd hw hy
 unfold dt2
 rw [wrap_id (x := u * x) (by omega), wrap_id (x := w * y) (by omega), wrap_id (by omega)]
theorem s_cncref23_Cross {u w r h x y s g : Int} (hu : u.natAbs <= 1000000000) (hw : w.natAbs <= 1000000000) (hx : x.natAbs <= 1000000000) (hy : y.natAbs <= 1000000000) : m_cncref23_Cross [I u, I w, I r, I h, I x, I y, I s, I g] = some [I (crs u w x y)] := by
 unfold m_cncref23_Cross
 rw [mf_cncref23_Cross_eq]
 have h1 := mul_bd hu hy
 have h2 := mul_bd hw hx
 unfold crs
 rw [wrap_id (x := u * y) (by omega), wrap_id (x := w * x) (by omega), wrap_id (by omega)]
theorem a_cncref23_ends {M : List AC -> Option (List AC)} {it : Itm} (hM : ∀ p : Pt, M [I p.x, I p.y, I p.z, I it.plane] = some [I (plU it.plane p), I (plW it.plane p), I (plH it.plane p)]) {b : Nat} (hb : b <= 1000000000) (h1 : bd b it.fr) (h2 : bd b it.to) (h3 : bd b it.ce) :
  mf_cncref23_ends M (itmR it) = some [I (dU it it.fr), I (dW it it.fr), I 0, I (plH it.plane it.fr), I (dU it it.to), I (dW it it.to), I 0, I (plH it.plane it.to)] := by
 rw [mf_cncref23_ends_eq]
 simp only [hM, go_sem]
 obtain ⟨q1, q2, q3⟩ := pl_bd (pl := it.plane) h1
 obtain ⟨q4, q5, q6⟩ := pl_bd (pl := it.plane) h2
 obtain ⟨q7, q8, q9⟩ := pl_bd (pl := it.plane) h3
 unfold dU dW
 rw [wrap_id (by omega), wrap_id (by omega), wrap_id (by omega), wrap_id (by omega)]
theorem s_cncref23_ends {it : Itm} (hp : isPl it.plane) {b : Nat} (hb : b <= 1000000000) (h1 : bd b it.fr) (h2 : bd b it.to) (h3 : bd b it.ce) :
  m_cncref23_ends (itmR it) = some [I (dU it it.fr), I (dW it it.fr), I 0, I (plH it.plane it.fr), I (dU it it.to), I (dW it it.to), I 0, I (plH it.plane it.to)] :=
 a_cncref23_ends (fun _ => s_Plane hp) hb h1 h2 h3

theorem ref_tail {X Y C D au aw bu bw : Int} {full : Bool} (hX : 0 <= X /\ X <= 1000000000000000) (hY : 0 <= Y /\ Y <= 1000000000000000) :
  ∃ v, (if X < 64 then some [B false] else if Y < 64 then some [B false] else if IntKind.i64.wrap (IntKind.i64.wrap (X + Y) - 16) > 0 then
   if cmpI (IntKind.i64.wrap (IntKind.i64.wrap (X + Y) - 16) * IntKind.i64.wrap (IntKind.i64.wrap (X + Y) - 16)) (IntKind.i64.wrap (4 * X) * Y) > 0 then some [B false] else if full = true then if au = bu then some [B (aw == bw)] else some [B false] else if C ≠ 0 then some [B true] else some [B (decide (D < 0))]
   else if full = true then if au = bu then some [B (aw == bw)] else some [B false] else if C ≠ 0 then some [B true] else some [B (decide (D < 0))]) = some [B v] /\
   (v = true ↔ 64 <= X /\ 64 <= Y /\ nearQ X Y /\ (full = true -> au = bu /\ aw = bw) /\ (full = false -> C ≠ 0 \/ D < 0)) := by
 rw [wrap_id (x := X + Y) (by omega), wrap_id (x := X + Y - 16) (by omega), wrap_id (x := 4 * X) (by omega)]
 by_cases c1 : X < 64
 ·rw [if_pos c1]; exact ⟨_, rfl, iff_of_false (by simp) fun h => by omega⟩
 rw [if_neg c1]
 by_cases c2 : Y < 64
 ·rw [if_pos c2]; exact ⟨_, rfl, iff_of_false (by simp) fun h => by omega⟩
 rw [if_neg c2, if_pos (by omega)]
 have hn : nearQ X Y ↔ ¬ cmpI ((X + Y - 16) * (X + Y - 16)) (4 * X * Y) > 0 := by
  have := @cmpI_le ((X + Y - 16) * (X + Y - 16)) (4 * X * Y)
  unfold nearQ
  omega
 by_cases c3 : cmpI ((X + Y - 16) * (X + Y - 16)) (4 * X * Y) > 0
 ·rw [if_pos c3]; exact ⟨_, rfl, iff_of_false (by simp) fun h => hn.1 h.2.2.1 c3⟩
 rw [if_neg c3]
 have hn' := hn.2 c3
 cases full with
 | true =>
  rw [if_pos rfl]
  by_cases c4 : au = bu
  ·rw [if_pos c4]; refine ⟨_, rfl, ?_⟩
   simp only [beq_iff_eq]
   exact ⟨fun h => ⟨by omega, by omega, hn', fun _ => ⟨c4, h⟩, fun h => by simp at h⟩, fun h => (h.2.2.2.1 trivial).2⟩
  ·rw [if_neg c4]; exact ⟨_, rfl, iff_of_false (by simp) fun h => c4 (h.2.2.2.1 rfl).1⟩
 | false =>
  rw [if_neg (by simp)]
  by_cases c4 : C ≠ 0
  ·rw [if_pos c4]; exact ⟨_, rfl, iff_of_true rfl ⟨by omega, by omega, hn', fun h => by simp at h, fun _ => .inl c4⟩⟩
  ·rw [if_neg c4]; refine ⟨_, rfl, ?_⟩
   simp only [decide_eq_true_eq]
   exact ⟨fun h => ⟨by omega, by omega, hn', fun h => by simp at h, fun _ => .inr h⟩, fun h => (h.2.2.2.2 trivial).resolve_left c4⟩

theorem a_cncref23_Valid {MC MX MD ME MW MM : List AC -> Option (List AC)} (hM : ∀ k : Int, MM [I k] = some [B (decide (1 <= k /\ k <= 6))]) (hW : ∀ p : Pt, MW [I p.x, I p.y, I p.z] = some [B (decide (bd 1048576 p))])
  {it : Itm} (hE : isPl it.plane -> bd 1048576 it.fr -> bd 1048576 it.to -> bd 1048576 it.ce -> ME (itmR it) = some [I (dU it it.fr), I (dW it it.fr), I 0, I (plH it.plane it.fr), I (dU it it.to), I (dW it it.to), I 0, I (plH it.plane it.to)])
  (hD : ∀ {u w r h x y s g : Int}, u.natAbs <= 1000000000 -> w.natAbs <= 1000000000 -> x.natAbs <= 1000000000 -> y.natAbs <= 1000000000 -> MD [I u, I w, I r, I h, I x, I y, I s, I g] = some [I (dt2 u w x y)])
  (hX : ∀ {u w r h x y s g : Int}, u.natAbs <= 1000000000 -> w.natAbs <= 1000000000 -> x.natAbs <= 1000000000 -> y.natAbs <= 1000000000 -> MX [I u, I w, I r, I h, I x, I y, I s, I g] = some [I (crs u w x y)])
  (hC : ∀ {a b c d : Int}, i64 a -> i64 b -> i64 c -> i64 d -> MC [I a, I b, I c, I d] = some [I (cmpI (a * b) (c * d))]) :
  ∃ v, mf_cncref23_Valid MX MC MD ME MW MM (itmR it) = some [B v] /\ (v = true ↔ validI it) := by
 rw [mf_cncref23_Valid_eq]
 simp only [go_sem, hM, hW]
 by_cases c1 : 1 <= it.kind /\ it.kind <= 6
 case neg => rw [if_pos (by simpa using c1)]; exact ⟨_, rfl, iff_of_false (by simp) fun h => c1 h.1⟩
 rw [if_neg (by simpa using c1)]
 by_cases c2 : bd 1048576 it.fr
 case neg => rw [if_pos (by simpa using c2)]; exact ⟨_, rfl, iff_of_false (by simp) fun h => c2 h.2.1⟩
 rw [if_neg (by simpa using c2)]
 by_cases c3 : bd 1048576 it.to
 case neg => rw [if_pos (by simpa using c3)]; exact ⟨_, rfl, iff_of_false (by simp) fun h => c3 h.2.2.1⟩
 rw [if_neg (by simpa using c3)]
 by_cases c4 : it.kind = 3
 case neg => rw [if_pos c4]; exact ⟨_, rfl, iff_of_true rfl ⟨c1, c2, c3, fun h => absurd h c4⟩⟩
 rw [if_neg (by simpa using c4)]
 by_cases c5 : isPl it.plane
 case neg =>
  unfold isPl at c5
  rw [if_pos (by omega), if_pos (by omega), if_pos (by omega)]
  exact ⟨_, rfl, iff_of_false (by simp) fun h => c5 (h.2.2.2 c4).1⟩
 by_cases c6 : it.dir = 1 \/ it.dir = -1
 case neg =>
  rw [if_pos (c := it.dir ≠ 1) (by omega), if_pos (c := it.dir ≠ -1) (by omega)]
  refine ⟨false, ?_, iff_of_false (by simp) fun h => c6 (h.2.2.2 c4).2.1⟩
  split
  ·split
   ·split <;> rfl
   ·rfl
  ·rfl
 by_cases c7 : bd 1048576 it.ce
 case neg =>
  refine ⟨false, ?_, iff_of_false (by simp) fun h => c7 (h.2.2.2 c4).2.2.1⟩
  rcases c5 with h | h | h <;> rcases c6 with g | g <;> simp only [h, g, c7, ne_eq, Int.reduceEq, Int.reduceNeg, not_true_eq_false, not_false_eq_true, if_true, if_false]
 have hE' := hE c5 c2 c3 c7
 obtain ⟨b1, b2⟩ := dU_bd (it := it) c7 c2
 obtain ⟨b3, b4⟩ := dU_bd (it := it) c7 c3
 simp only [itmR] at hE'
 have x1 := sq2_bd b1 b2
 have x2 := sq2_bd b3 b4
 have core : validI it ↔ 64 <= qA it /\ 64 <= qB it /\ nearQ (qA it) (qB it) /\ (it.full = true -> dU it it.fr = dU it it.to /\ dW it it.fr = dW it it.to) /\ (it.full = false -> cAB it ≠ 0 \/ dAB it < 0) :=
  ⟨fun h => (h.2.2.2 c4).2.2.2, fun h => ⟨c1, c2, c3, fun _ => ⟨c5, c6, c7, h⟩⟩⟩
 rw [core]
 have e1 : dt2 (dU it it.fr) (dW it it.fr) (dU it it.fr) (dW it it.fr) = qA it := rfl
 have e2 : dt2 (dU it it.to) (dW it it.to) (dU it it.to) (dW it it.to) = qB it := rfl
 have e3 : dt2 (dU it it.fr) (dW it it.fr) (dU it it.to) (dW it it.to) = dAB it := rfl
 have e4 : crs (dU it it.fr) (dW it it.fr) (dU it it.to) (dW it it.to) = cAB it := rfl
 have x1' : 0 <= qA it /\ qA it <= 1000000000000000 := ⟨x1.1, by unfold qA; omega⟩
 have x2' : 0 <= qB it /\ qB it <= 1000000000000000 := ⟨x2.1, by unfold qB; omega⟩
 have hY : i64 (qB it) := by unfold i64; omega
 have D1 := @hD (dU it it.fr) (dW it it.fr) 0 (plH it.plane it.fr) (dU it it.fr) (dW it it.fr) 0 (plH it.plane it.fr) (by omega) (by omega) (by omega) (by omega)
 have D2 := @hD (dU it it.to) (dW it it.to) 0 (plH it.plane it.to) (dU it it.to) (dW it it.to) 0 (plH it.plane it.to) (by omega) (by omega) (by omega) (by omega)
 have D3 := @hD (dU it it.fr) (dW it it.fr) 0 (plH it.plane it.fr) (dU it it.to) (dW it it.to) 0 (plH it.plane it.to) (by omega) (by omega) (by omega) (by omega)
 have D4 := @hX (dU it it.fr) (dW it it.fr) 0 (plH it.plane it.fr) (dU it it.to) (dW it it.to) 0 (plH it.plane it.to) (by omega) (by omega) (by omega) (by omega)
 have D5 := @hC (IntKind.i64.wrap (IntKind.i64.wrap (qA it + qB it) - 16)) (IntKind.i64.wrap (IntKind.i64.wrap (qA it + qB it) - 16)) (IntKind.i64.wrap (4 * qA it)) (qB it) (i64_wrap _) (i64_wrap _) (i64_wrap _) hY
 rw [e1] at D1
 rw [e2] at D2
 rw [e3] at D3
 rw [e4] at D4
 have T := @ref_tail (qA it) (qB it) (cAB it) (dAB it) (dU it it.fr) (dW it it.fr) (dU it it.to) (dW it it.to) it.full x1' x2'
 have n7 : ¬ ¬ bd 1048576 it.ce := fun h => h c7
 have fin : ∀ {t : Option (List AC)}, t = (if qA it < 64 then some [B false] else if qB it < 64 then some [B false] else if IntKind.i64.wrap (IntKind.i64.wrap (qA it + qB it) - 16) > 0 then
   if cmpI (IntKind.i64.wrap (IntKind.i64.wrap (qA it + qB it) - 16) * IntKind.i64.wrap (IntKind.i64.wrap (qA it + qB it) - 16)) (IntKind.i64.wrap (4 * qA it) * qB it) > 0 then some [B false] else if it.full = true then if dU it it.fr = dU it it.to then some [B (dW it it.fr == dW it it.to)] else some [B false] else if cAB it ≠ 0 then some [B true] else some [B (decide (dAB it < 0))]
   else if it.full = true then if dU it it.fr = dU it it.to then some [B (dW it it.fr == dW it it.to)] else some [B false] else if cAB it ≠ 0 then some [B true] else some [B (decide (dAB it < 0))]) ->
   ∃ v, t = some [B v] /\ (v = true ↔ 64 <= qA it /\ 64 <= qB it /\ nearQ (qA it) (qB it) /\ (it.full = true -> dU it it.fr = dU it it.to /\ dW it it.fr = dW it it.to) /\ (it.full = false -> cAB it ≠ 0 \/ dAB it < 0)) := by
  intro t ht; rw [ht]; exact T
 have c5' : isPl it.plane := c5
 rcases c5 with h | h | h
 ·rw [if_neg (c := it.plane ≠ 17) (by omega)]
  by_cases d1 : it.dir = 1
  ·rw [if_neg (c := it.dir ≠ 1) (fun h => h d1), if_neg (c := ¬ bd 1048576 it.ce) n7]
   apply fin; simp only [hE', go_sem, D1, D2, D3, D4, D5]
  ·rw [if_pos (c := it.dir ≠ 1) d1, if_neg (c := it.dir ≠ -1) (by omega), if_neg (c := ¬ bd 1048576 it.ce) n7]
   apply fin; simp only [hE', go_sem, D1, D2, D3, D4, D5]
 ·rw [if_pos (c := it.plane ≠ 17) (by omega), if_neg (c := it.plane ≠ 18) (by omega)]
  by_cases d1 : it.dir = 1
  ·rw [if_neg (c := it.dir ≠ 1) (fun h => h d1), if_neg (c := ¬ bd 1048576 it.ce) n7]
   apply fin; simp only [hE', go_sem, D1, D2, D3, D4, D5]
  ·rw [if_pos (c := it.dir ≠ 1) d1, if_neg (c := it.dir ≠ -1) (by omega), if_neg (c := ¬ bd 1048576 it.ce) n7]
   apply fin; simp only [hE', go_sem, D1, D2, D3, D4, D5]
 ·rw [if_pos (c := it.plane ≠ 17) (by omega), if_pos (c := it.plane ≠ 18) (by omega), if_neg (c := it.plane ≠ 19) (by omega)]
  by_cases d1 : it.dir = 1
  ·rw [if_neg (c := it.dir ≠ 1) (fun h => h d1), if_neg (c := ¬ bd 1048576 it.ce) n7]
   apply fin; simp only [hE', go_sem, D1, D2, D3, D4, D5]
  ·rw [if_pos (c := it.dir ≠ 1) d1, if_neg (c := it.dir ≠ -1) (by omega), if_neg (c := ¬ bd 1048576 it.ce) n7]
   apply fin; simp only [hE', go_sem, D1, D2, D3, D4, D5]
theorem s_cncref23_Valid (it : Itm) : ∃ v, m_cncref23_Valid (itmR it) = some [B v] /\ (v = true ↔ validI it) :=
 a_cncref23_Valid s_cncref23_Motion s_cncref23_within (fun h1 h2 h3 h4 => s_cncref23_ends h1 (by omega) h2 h3 h4) s_cncref23_Dot s_cncref23_Cross s_cncref01_Cmp
end Go.Bm
/- which motions can be drawn: the program's answer -/
set_option maxRecDepth 100000
namespace Go.Bm

def fine (p : Pt) : Pt := ⟨p.x * 16, p.y * 16, p.z * 16⟩
theorem fine_bd {b : Nat} {p : Pt} (h : bd b p) : bd (b * 16) (fine p) := by
 obtain ⟨h1, h2, h3⟩ := h
 unfold fine
 exact ⟨by simp only; omega, by simp only; omega, by simp only; omega⟩
theorem s_Fine {p : Pt} (h : bd 100000000 p) : m_cncref23_Fine [I p.x, I p.y, I p.z] = some (ptR (fine p)) := by
 unfold m_cncref23_Fine
 rw [mf_cncref23_Fine_eq]
 obtain ⟨h1, h2, h3⟩ := h
 rw [wrap_id (by omega), wrap_id (by omega), wrap_id (by omega)]
 rfl
end Go.Bm
/- the reference's spokes: the middle of a piece, the pieces of an arc, its chords -/
set_option maxRecDepth 100000
namespace Go.Bm

def okS (s : Spk) : Prop := s.u.natAbs <= 50000000 /\ s.w.natAbs <= 50000000 /\ (0 <= s.r /\ s.r <= 50000000) /\ s.h.natAbs <= 16777216
def hf (a b : Int) : Int := (a + b + 1) / 2
theorem s_half {a b : Int} (ha : a.natAbs <= 100000000) (hb : b.natAbs <= 100000000) : m_cncref23_half [I a, I b] = some [I (hf a b)] := by
  unfold m_cncref23_half
  rw [mf_cncref23_half_eq, wrap_id (x := a + b) (by omega), wrap_id (x := a + b + 1) (by omega)]
  have e : (2 ^ min (Int.toNat 1) IntKind.i64.bits : Int) = 2 := rfl
  rw [e, Int.fdiv_eq_ediv_of_nonneg _ (by omega)]
  rfl
def midD (a b : Spk) (dir : Int) (full : Bool) : Int × Int :=
  if full = true then (-a.u, -a.w)
  else if 0 < dt2 a.u a.w b.u b.w /\ 0 < crs a.u a.w b.u b.w * dir then (a.u + b.u, a.w + b.w)
  else if 0 < dt2 a.u a.w b.u b.w then (-(a.u + b.u), -(a.w + b.w))
  else (dir * (b.w - a.w), dir * (a.u - b.u))
noncomputable def midOf (a b : Spk) (u w : Int) : Spk := if u = 0 /\ w = 0 then ⟨0, 0, 0, 0⟩ else ⟨nearR u (hf a.r b.r) (sq2 u w), nearR w (hf a.r b.r) (sq2 u w), hf a.r b.r, hf a.h b.h⟩
noncomputable def midS (a b : Spk) (dir : Int) (full : Bool) : Spk := midOf a b (midD a b dir full).1 (midD a b dir full).2
theorem midD_bd {a b : Spk} (ha : okS a) (hb : okS b) {dir : Int} (hd : dir = 1 \/ dir = -1) (full : Bool) : (midD a b dir full).1.natAbs <= 100000000 /\ (midD a b dir full).2.natAbs <= 100000000 := by
  obtain ⟨a1, a2, -⟩ := ha
  obtain ⟨b1, b2, -⟩ := hb
  unfold midD
  split
  · exact ⟨by simp only; omega, by simp only; omega⟩
  · split
    · exact ⟨by simp only; omega, by simp only; omega⟩
    · split
      · exact ⟨by simp only; omega, by simp only; omega⟩
      · rcases hd with rfl | rfl
        · exact ⟨by simp only; omega, by simp only; omega⟩
        · exact ⟨by simp only; omega, by simp only; omega⟩
theorem sq2_sq (u w : Int) : u * u <= sq2 u w /\ w * w <= sq2 u w := by
  have h1 := sq_nn u
  have h2 := sq_nn w
  unfold sq2
  omega
theorem sq2_pos {u w : Int} (h : ¬ (u = 0 /\ w = 0)) : 0 < sq2 u w := by
  have h1 := sq_nn u
  have h2 := sq_nn w
  have z : ∀ u : Int, u * u = 0 -> u = 0 := fun u hu => by
    rcases Int.mul_eq_zero.1 hu with h | h <;> exact h
  have h3 : ¬ (u * u = 0 /\ w * w = 0) := fun h4 => h ⟨z _ h4.1, z _ h4.2⟩
  unfold sq2
  omega
theorem hf_bd {a b : Int} (ha : 0 <= a /\ a <= 50000000) (hb : 0 <= b /\ b <= 50000000) : 0 <= hf a b /\ hf a b <= 50000000 := by unfold hf; omega
theorem hf_bd2 {a b : Int} (ha : a.natAbs <= 16777216) (hb : b.natAbs <= 16777216) : (hf a b).natAbs <= 16777216 := by unfold hf; omega
theorem near_S {u w r : Int} (hu : u.natAbs <= 100000000) (hw : w.natAbs <= 100000000) (hr : 0 <= r /\ r <= 50000000) (h : ¬ (u = 0 /\ w = 0)) :
    (m_cncref23_Near [I u, I r, I (sq2 u w)] = some [I (nearR u r (sq2 u w))] /\ (nearR u r (sq2 u w)).natAbs <= r.natAbs) /\ (m_cncref23_Near [I w, I r, I (sq2 u w)] = some [I (nearR w r (sq2 u w))] /\ (nearR w r (sq2 u w)).natAbs <= r.natAbs) := by
  have hp := sq2_pos h
  have h1 := sq_bd hu
  have h2 := sq_bd hw
  have h3 : sq2 u w <= 20000000000000000 := by unfold sq2; omega
  obtain ⟨q1, q2⟩ := sq2_sq u w
  have key : ∀ x : Int, x.natAbs <= 100000000 -> x * x <= sq2 u w -> m_cncref23_Near [I x, I r, I (sq2 u w)] = some [I (nearR x r (sq2 u w))] /\ (nearR x r (sq2 u w)).natAbs <= r.natAbs := by
    intro x hx hq
    obtain ⟨g1, -, g3⟩ := s_cncref23_Near (x := x) (r := r) (n := sq2 u w) (Nat.le_trans hx (by decide)) (by omega) (by omega) hq
    refine ⟨g1, isRnd_le (by omega) ?_ g3⟩
    have : ((x.natAbs * x.natAbs : Nat) : Int) = x * x := Int.natAbs_mul_self
    omega
  exact ⟨key u hu q1, key w hw q2⟩
theorem midOf_ok {a b : Spk} (ha : okS a) (hb : okS b) {u w : Int} (hu : u.natAbs <= 100000000) (hw : w.natAbs <= 100000000) : okS (midOf a b u w) := by
  unfold midOf
  split
  · exact ⟨by simp, by simp, by simp, by simp⟩
  · rename_i h
    have hr := hf_bd ha.2.2.1 hb.2.2.1
    obtain ⟨⟨-, n1⟩, -, n2⟩ := near_S hu hw hr h
    exact ⟨by simp only; omega, by simp only; omega, hr, hf_bd2 ha.2.2.2 hb.2.2.2⟩
theorem midS_ok {a b : Spk} (ha : okS a) (hb : okS b) {dir : Int} (hd : dir = 1 \/ dir = -1) (full : Bool) : okS (midS a b dir full) :=
  midOf_ok ha hb (midD_bd ha hb hd full).1 (midD_bd ha hb hd full).2
theorem mid_tail {MN MH : List AC -> Option (List AC)} {a b : Spk} {u w : Int} (hu : u.natAbs <= 100000000) (hw : w.natAbs <= 100000000) (h1 : MH [I a.r, I b.r] = some [I (hf a.r b.r)]) (h2 : MH [I a.h, I b.h] = some [I (hf a.h b.h)])
    (hN : ¬ (u = 0 /\ w = 0) -> MN [I u, I (hf a.r b.r), I (sq2 u w)] = some [I (nearR u (hf a.r b.r) (sq2 u w))] /\ MN [I w, I (hf a.r b.r), I (sq2 u w)] = some [I (nearR w (hf a.r b.r) (sq2 u w))]) :
    (bif u == 0 then
      bif w == 0 then some [AC.int IntKind.i64 0, AC.int IntKind.i64 0, AC.int IntKind.i64 0, AC.int IntKind.i64 0, AC.bool false]
      else (MH [AC.int IntKind.i64 a.r, AC.int IntKind.i64 b.r]).bind fun o104 =>
       (MN [AC.int IntKind.i64 u, AC.int IntKind.i64 (intOf (nth AC.dead o104 0)), AC.int IntKind.i64 (IntKind.i64.wrap (IntKind.i64.wrap (u * u) + IntKind.i64.wrap (w * w)))]).bind fun o105 =>
       (MN [AC.int IntKind.i64 w, AC.int IntKind.i64 (intOf (nth AC.dead o104 0)), AC.int IntKind.i64 (IntKind.i64.wrap (IntKind.i64.wrap (u * u) + IntKind.i64.wrap (w * w)))]).bind fun o106 =>
       (MH [AC.int IntKind.i64 a.h, AC.int IntKind.i64 b.h]).bind fun o107 =>
       some [AC.int IntKind.i64 (intOf (nth AC.dead o105 0)), AC.int IntKind.i64 (intOf (nth AC.dead o106 0)), AC.int IntKind.i64 (intOf (nth AC.dead o104 0)), AC.int IntKind.i64 (intOf (nth AC.dead o107 0)), AC.bool true]
     else (MH [AC.int IntKind.i64 a.r, AC.int IntKind.i64 b.r]).bind fun o104 =>
       (MN [AC.int IntKind.i64 u, AC.int IntKind.i64 (intOf (nth AC.dead o104 0)), AC.int IntKind.i64 (IntKind.i64.wrap (IntKind.i64.wrap (u * u) + IntKind.i64.wrap (w * w)))]).bind fun o105 =>
       (MN [AC.int IntKind.i64 w, AC.int IntKind.i64 (intOf (nth AC.dead o104 0)), AC.int IntKind.i64 (IntKind.i64.wrap (IntKind.i64.wrap (u * u) + IntKind.i64.wrap (w * w)))]).bind fun o106 =>
       (MH [AC.int IntKind.i64 a.h, AC.int IntKind.i64 b.h]).bind fun o107 =>
       some [AC.int IntKind.i64 (intOf (nth AC.dead o105 0)), AC.int IntKind.i64 (intOf (nth AC.dead o106 0)), AC.int IntKind.i64 (intOf (nth AC.dead o104 0)), AC.int IntKind.i64 (intOf (nth AC.dead o107 0)), AC.bool true]) =
    some (spkR (midOf a b u w) ++ [B (decide (¬ (u = 0 /\ w = 0)))]) := by
  have q1 := sq_bd hu
  have q2 := sq_bd hw
  have e : IntKind.i64.wrap (IntKind.i64.wrap (u * u) + IntKind.i64.wrap (w * w)) = sq2 u w := by
    unfold sq2
    generalize u * u = x at *
    generalize w * w = y at *
    rw [wrap_id (x := x) (by omega), wrap_id (x := y) (by omega), wrap_id (by omega)]
  simp only [go_sem, e, h1, h2]
  unfold midOf
  by_cases h : u = 0 /\ w = 0
  · rw [if_pos h.1, if_pos h.2, if_pos h]
    simp [h]
  · obtain ⟨n1, n2⟩ := hN h
    rw [if_neg h]
    simp only [n1, n2, go_sem]
    have hd : decide (¬ (u = 0 /\ w = 0)) = true := decide_eq_true h
    rw [hd]
    by_cases hu0 : u = 0
    · rw [if_pos hu0, if_neg (fun hw0 => h ⟨hu0, hw0⟩)]; rfl
    · rw [if_neg hu0]; rfl
theorem a_cncref23_Middle {MN MH MC MD : List AC -> Option (List AC)} {a b : Spk} (ha : okS a) (hb : okS b) {dir : Int} (hd : dir = 1 \/ dir = -1) (full : Bool)
    (h1 : MH [I a.r, I b.r] = some [I (hf a.r b.r)]) (h2 : MH [I a.h, I b.h] = some [I (hf a.h b.h)])
    (hN : ∀ {u w : Int}, u.natAbs <= 100000000 -> w.natAbs <= 100000000 -> ¬ (u = 0 /\ w = 0) -> MN [I u, I (hf a.r b.r), I (sq2 u w)] = some [I (nearR u (hf a.r b.r) (sq2 u w))] /\ MN [I w, I (hf a.r b.r), I (sq2 u w)] = some [I (nearR w (hf a.r b.r) (sq2 u w))])
    (hC : MC [I a.u, I a.w, I a.r, I a.h, I b.u, I b.w, I b.r, I b.h] = some [I (crs a.u a.w b.u b.w)]) (hD : MD [I a.u, I a.w, I a.r, I a.h, I b.u, I b.w, I b.r, I b.h] = some [I (dt2 a.u a.w b.u b.w)])
    (hcb : (crs a.u a.w b.u b.w).natAbs <= 5000000000000000) :
    mf_cncref23_Middle MN MH MC MD [I a.u, I a.w, I a.r, I a.h, I b.u, I b.w, I b.r, I b.h, I dir, B full] = some (spkR (midS a b dir full) ++ [B (decide (¬ ((midD a b dir full).1 = 0 /\ (midD a b dir full).2 = 0)))]) := by
  have key := fun {u w : Int} (hu : u.natAbs <= 100000000) (hw : w.natAbs <= 100000000) => mid_tail (MN := MN) (MH := MH) (a := a) (b := b) hu hw h1 h2 (hN hu hw)
  have hbd := midD_bd ha hb hd full
  obtain ⟨a1, a2, -⟩ := ha
  obtain ⟨b1, b2, -⟩ := hb
  have w1 : IntKind.i64.wrap (0 - a.u) = -a.u := by rw [wrap_id (by omega)]; omega
  have w2 : IntKind.i64.wrap (0 - a.w) = -a.w := by rw [wrap_id (by omega)]; omega
  have w3 : IntKind.i64.wrap (a.u + b.u) = a.u + b.u := wrap_id (by omega)
  have w4 : IntKind.i64.wrap (a.w + b.w) = a.w + b.w := wrap_id (by omega)
  have w5 : IntKind.i64.wrap (0 - (a.u + b.u)) = -(a.u + b.u) := by rw [wrap_id (by omega)]; omega
  have w6 : IntKind.i64.wrap (0 - (a.w + b.w)) = -(a.w + b.w) := by rw [wrap_id (by omega)]; omega
  have w7 : IntKind.i64.wrap (b.w - a.w) = b.w - a.w := wrap_id (by omega)
  have w8 : IntKind.i64.wrap (a.u - b.u) = a.u - b.u := wrap_id (by omega)
  have w9 : IntKind.i64.wrap (dir * (b.w - a.w)) = dir * (b.w - a.w) := by rcases hd with rfl | rfl <;> exact wrap_id (by omega)
  have w10 : IntKind.i64.wrap (dir * (a.u - b.u)) = dir * (a.u - b.u) := by rcases hd with rfl | rfl <;> exact wrap_id (by omega)
  have w11 : IntKind.i64.wrap (crs a.u a.w b.u b.w * dir) = crs a.u a.w b.u b.w * dir := by rcases hd with rfl | rfl <;> exact wrap_id (by omega)
  rw [mf_cncref23_Middle_eq]
  unfold midS
  simp only [w1, w2, w3, w4, w5, w6, w7, w8, w9, w10, hC, hD, Option.bind_some, nth_zero', intOf_int, gA, jA, wA, bA, w11]
  have fin : ∀ {x : Option (List AC)}, x = some (spkR (midOf a b (midD a b dir full).1 (midD a b dir full).2) ++ [B (decide (¬ ((midD a b dir full).1 = 0 /\ (midD a b dir full).2 = 0)))]) ->
      (bif dir != 1 then bif dir != -1 then some [AC.int IntKind.i64 0, AC.int IntKind.i64 0, AC.int IntKind.i64 0, AC.int IntKind.i64 0, AC.bool false] else x else x) = some (spkR (midOf a b (midD a b dir full).1 (midD a b dir full).2) ++ [B (decide (¬ ((midD a b dir full).1 = 0 /\ (midD a b dir full).2 = 0)))]) := by
    intro x hx
    rcases hd with rfl | rfl
    · rw [bif_false (by decide)]; exact hx
    · rw [bif_true (by decide), bif_false (by decide)]; exact hx
  refine fin ?_
  have hk := key hbd.1 hbd.2
  unfold midD at *
  cases full
  · simp only [cond_false, Bool.false_eq_true, if_false] at hk ⊢
    by_cases c1 : 0 < dt2 a.u a.w b.u b.w
    · rw [bif_pos (show dt2 a.u a.w b.u b.w > 0 from c1)]
      by_cases c2 : 0 < crs a.u a.w b.u b.w * dir
      · rw [bif_pos (show crs a.u a.w b.u b.w * dir > 0 from c2)]
        rw [if_pos ⟨c1, c2⟩] at hk ⊢
        exact hk
      · rw [bif_neg (show ¬ crs a.u a.w b.u b.w * dir > 0 from c2), bif_pos (show dt2 a.u a.w b.u b.w > 0 from c1)]
        rw [if_neg (fun h => c2 h.2), if_pos c1] at hk ⊢
        exact hk
    · rw [bif_neg (show ¬ dt2 a.u a.w b.u b.w > 0 from c1), bif_neg (show ¬ dt2 a.u a.w b.u b.w > 0 from c1)]
      rw [if_neg (fun h => c1 h.1), if_neg c1] at hk ⊢
      exact hk
  · simp only [cond_true, if_true] at hk ⊢
    exact hk
theorem dir_nat {x : Int} (h : x.natAbs <= 50000000) : x.natAbs <= 1000000000 := Nat.le_trans h (by decide)
theorem s_cncref23_Middle {a b : Spk} (ha : okS a) (hb : okS b) {dir : Int} (hd : dir = 1 \/ dir = -1) (full : Bool) :
    m_cncref23_Middle [I a.u, I a.w, I a.r, I a.h, I b.u, I b.w, I b.r, I b.h, I dir, B full] = some (spkR (midS a b dir full) ++ [B (decide (¬ ((midD a b dir full).1 = 0 /\ (midD a b dir full).2 = 0)))]) := by
  have hc := (dt2_bd ha.1 ha.2.1 hb.1 hb.2.1).2
  exact a_cncref23_Middle ha hb hd full (s_half (by have := ha.2.2.1; omega) (by have := hb.2.2.1; omega)) (s_half (Nat.le_trans ha.2.2.2 (by decide)) (Nat.le_trans hb.2.2.2 (by decide)))
    (fun hu hw h => by obtain ⟨⟨g1, -⟩, g2, -⟩ := near_S hu hw (hf_bd ha.2.2.1 hb.2.2.1) h; exact ⟨g1, g2⟩)
    (s_cncref23_Cross (dir_nat ha.1) (dir_nat ha.2.1) (dir_nat hb.1) (dir_nat hb.2.1)) (s_cncref23_Dot (dir_nat ha.1) (dir_nat ha.2.1) (dir_nat hb.1) (dir_nat hb.2.1)) hc

def setS (a b : Spk) (dir : Int) (full : Bool) : Prop := full = false /\ 0 < crs a.u a.w b.u b.w * dir /\ sq2 (a.u - b.u) (a.w - b.w) <= 32 * mn a.r b.r - 64
theorem s_Flat {r n : Int} (hr : 0 <= r /\ r <= 50000000) : m_cncref23_Flat [I r, I n] = some [B (decide (n <= 32 * r - 64))] := by
  unfold m_cncref23_Flat
  rw [mf_cncref23_Flat_eq, wrap_id (x := 8 * r) (by omega), wrap_id (x := 8 * r * 4) (by omega), wrap_id (x := 8 * r * 4 - 64) (by omega), show 8 * r * 4 - 64 = 32 * r - 64 by omega]
instance {a b : Spk} {dir : Int} {full : Bool} : Decidable (setS a b dir full) := by unfold setS; infer_instance
theorem a_cncref23_settled {MF MC : List AC -> Option (List AC)} {a b : Spk} (ha : okS a) (hb : okS b) {dir : Int} (hd : dir = 1 \/ dir = -1) (full : Bool)
    (hF : ∀ {r n : Int}, (0 <= r /\ r <= 50000000) -> MF [I r, I n] = some [B (decide (n <= 32 * r - 64))])
    (hC : MC [I a.u, I a.w, I a.r, I a.h, I b.u, I b.w, I b.r, I b.h] = some [I (crs a.u a.w b.u b.w)]) (hcb : (crs a.u a.w b.u b.w).natAbs <= 5000000000000000) :
    mf_cncref23_settled MF MC [I a.u, I a.w, I a.r, I a.h, I b.u, I b.w, I b.r, I b.h, I dir, B full] = some [B (decide (setS a b dir full))] := by
  have hr : 0 <= mn a.r b.r /\ mn a.r b.r <= 50000000 := by
    have h1 := ha.2.2.1
    have h2 := hb.2.2.1
    unfold mn; split <;> omega
  obtain ⟨a1, a2, -⟩ := ha
  obtain ⟨b1, b2, -⟩ := hb
  have x1 := sub_nat a1 b1
  have x2 := sub_nat a2 b2
  have q1 := sq_bd x1
  have q2 := sq_bd x2
  have e : IntKind.i64.wrap (IntKind.i64.wrap ((a.u - b.u) * (a.u - b.u)) + IntKind.i64.wrap ((a.w - b.w) * (a.w - b.w))) = sq2 (a.u - b.u) (a.w - b.w) := by
    unfold sq2
    generalize (a.u - b.u) * (a.u - b.u) = x at *
    generalize (a.w - b.w) * (a.w - b.w) = y at *
    rw [wrap_id (x := x) (by omega), wrap_id (x := y) (by omega), wrap_id (by omega)]
  have w11 : IntKind.i64.wrap (crs a.u a.w b.u b.w * dir) = crs a.u a.w b.u b.w * dir := by rcases hd with rfl | rfl <;> exact wrap_id (by omega)
  rw [mf_cncref23_settled_eq, wrap_nat x1 (by decide), wrap_nat x2 (by decide), e]
  cases full
  · simp only [Bool.not_false, cond_true, hC, Option.bind_some, nth_zero', intOf_int, gA, jA, wA, bA, w11, hF hr, boolOf_bool]
    by_cases c : 0 < crs a.u a.w b.u b.w * dir
    · rw [bif_pos (show crs a.u a.w b.u b.w * dir > 0 from c)]
      by_cases c2 : sq2 (a.u - b.u) (a.w - b.w) <= 32 * mn a.r b.r - 64
      · rw [decide_eq_true c2, decide_eq_true (show setS a b dir false from ⟨rfl, c, c2⟩)]
      · rw [decide_eq_false c2, decide_eq_false (fun h : setS a b dir false => c2 h.2.2)]
    · rw [bif_neg (show ¬ crs a.u a.w b.u b.w * dir > 0 from c), decide_eq_false (fun h : setS a b dir false => c h.2.1)]
  · simp only [Bool.not_true, cond_false]
    rw [decide_eq_false (fun h : setS a b dir true => by cases h.1)]
theorem s_cncref23_settled {a b : Spk} (ha : okS a) (hb : okS b) {dir : Int} (hd : dir = 1 \/ dir = -1) (full : Bool) :
    m_cncref23_settled [I a.u, I a.w, I a.r, I a.h, I b.u, I b.w, I b.r, I b.h, I dir, B full] = some [B (decide (setS a b dir full))] :=
  a_cncref23_settled ha hb hd full s_Flat (s_cncref23_Cross (dir_nat ha.1) (dir_nat ha.2.1) (dir_nat hb.1) (dir_nat hb.2.1)) (dt2_bd ha.1 ha.2.1 hb.1 hb.2.1).2

noncomputable def pcsL (dir : Int) : Nat -> Bool -> Spk -> Spk -> List Spk
  | 0, _, _, b => [b]
  | k + 1, full, a, b => if setS a b dir full then [b] else pcsL dir k false a (midS a b dir full) ++ pcsL dir k false (midS a b dir full) b
theorem pcsL_len {dir : Int} : ∀ (k : Nat) (full : Bool) (a b : Spk), 1 <= (pcsL dir k full a b).length /\ (pcsL dir k full a b).length <= 2 ^ k
  | 0, _, _, b => by simp [pcsL]
  | k + 1, full, a, b => by
    have hp : 0 < 2 ^ k := Nat.two_pow_pos _
    have e3 : 2 ^ (k + 1) = 2 ^ k + 2 ^ k := by rw [Nat.pow_succ]; omega
    unfold pcsL
    split
    · simp; omega
    · have h1 := pcsL_len k false a (midS a b dir full) (dir := dir)
      have h2 := pcsL_len k false (midS a b dir full) b (dir := dir)
      rw [List.length_append]
      omega
theorem pcsL_ok {dir : Int} (hd : dir = 1 \/ dir = -1) : ∀ (k : Nat) (full : Bool) {a b : Spk}, okS a -> okS b -> ∀ s ∈ pcsL dir k full a b, okS s
  | 0, _, a, b, _, hb, s, hs => by simp [pcsL] at hs; subst hs; exact hb
  | k + 1, full, a, b, ha, hb, s, hs => by
    unfold pcsL at hs
    have hm := midS_ok ha hb hd full
    split at hs
    · simp at hs; subst hs; exact hb
    · rcases List.mem_append.1 hs with hs | hs
      · exact pcsL_ok hd k false ha hm s hs
      · exact pcsL_ok hd k false hm hb s hs
theorem s_pieces {dir : Int} (hd : dir = 1 \/ dir = -1) : ∀ (n k : Nat) (full : Bool) (a b : Spk), k <= 16 -> k < n -> okS a -> okS b ->
    mR_cncref23_pieces n [I a.u, I a.w, I a.r, I a.h, I b.u, I b.w, I b.r, I b.h, I dir, B full, I (16 - k : Int)] = some [.view kSpk ((pcsL dir k full a b).map spkR)]
  | 0, k, _, _, _, _, hk, _, _ => by omega
  | n + 1, 0, full, a, b, _, _, ha, hb => by
    show mf_cncref23_pieces _ _ _ _ = _
    rw [mf_cncref23_pieces_eq, bif_pos (by omega)]
    rfl
  | n + 1, k + 1, full, a, b, hk, hn, ha, hb => by
    have hm := midS_ok ha hb hd full
    have i1 := s_pieces hd n k false a (midS a b dir full) (by omega) (by omega) ha hm
    have i2 := s_pieces hd n k false (midS a b dir full) b (by omega) (by omega) hm hb
    have e1 := s_cncref23_settled ha hb hd full
    have e2 := s_cncref23_Middle ha hb hd full
    show mf_cncref23_pieces (mR_cncref23_pieces n) m_cncref23_Middle m_cncref23_settled _ = _
    generalize mR_cncref23_pieces n = MP at *
    generalize m_cncref23_Middle = MM at *
    generalize m_cncref23_settled = MS at *
    have l1 := (pcsL_len k false a (midS a b dir full) (dir := dir)).2
    have l2 := (pcsL_len k false (midS a b dir full) b (dir := dir)).2
    have l3 : 2 ^ k <= 2 ^ 16 := Nat.pow_le_pow_right (by omega) (by omega)
    rw [mf_cncref23_pieces_eq, bif_neg (by omega), wrap_id (by omega), show (16 - ((k + 1 : Nat) : Int) + 1) = 16 - (k : Int) by omega]
    unfold pcsL
    generalize midS a b dir full = m at *
    generalize pcsL dir k false a m = p1 at *
    generalize pcsL dir k false m b = p2 at *
    simp only [List.cons_append, List.nil_append, spkR] at e2
    simp only [e1, e2, Option.bind_some, nth_zero', nth_1, nth_2, nth_3, intOf_int, gA, jA, wA, bA, boolOf_bool, i1, i2, rowsOf_view]
    by_cases c : setS a b dir full
    · rw [if_pos c, bif_true (decide_eq_true c)]; rfl
    · rw [if_neg c, bif_false (decide_eq_false c), bif_true]
      · rw [List.map_append]
      · have e : ((List.map spkR p1 ++ List.map spkR p2).length * 32) <= 140737488355328 := by
          simp only [List.length_append, List.length_map]
          have : (2 : Nat) ^ 16 = 65536 := rfl
          omega
        exact Nat.ble_eq_true_of_le e
end Go.Bm
