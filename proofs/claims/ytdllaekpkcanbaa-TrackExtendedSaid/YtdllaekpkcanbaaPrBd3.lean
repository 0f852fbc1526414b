/- laid together -/
import Derived.Test.YtdllaekpkcanbaaPrH
import Derived.Test.YtdllaekpkcanbaaMx5
set_option linter.unusedVariables false
set_option linter.unusedSimpArgs false
/- the items that the laws' maker of items gives: arcs, motions, lists of motions -/
set_option maxRecDepth 100000
namespace Go.Bm

def plU (pl : Int) (p : Pt) : Int := if pl = 17 then p.x else if pl = 18 then p.z else p.y
def plW (pl : Int) (p : Pt) : Int := if pl = 17 then p.y else if pl = 18 then p.x else p.z
def plH (pl : Int) (p : Pt) : Int := if pl = 17 then p.z else if pl = 18 then p.y else p.x
def spP (pl u w h : Int) : Pt := if pl = 17 then ⟨u, w, h⟩ else if pl = 18 then ⟨w, h, u⟩ else ⟨h, u, w⟩
def isPl (pl : Int) : Prop := pl = 17 \/ pl = 18 \/ pl = 19
theorem s_Plane {p : Pt} {pl : Int} (h : isPl pl) : Qfz [I p.x, I p.y, I p.z, I pl] = some [I (plU pl p), I (plW pl p), I (plH pl p)] := by
 unfold Qfz
 rw [mf_cncref23_Plane_eq]
 rcases h with rfl | rfl | rfl <;> rfl
theorem s_Space {u w h pl : Int} (hp : isPl pl) : Qfy [I u, I w, I h, I pl] = some (ptR (spP pl u w h)) := by
 unfold Qfy
 rw [mf_cncref23_Space_eq]
 rcases hp with rfl | rfl | rfl <;> rfl
theorem pl_sp {pl u w h : Int} (hp : isPl pl) : plU pl (spP pl u w h) = u /\ plW pl (spP pl u w h) = w /\ plH pl (spP pl u w h) = h := by
 rcases hp with rfl | rfl | rfl <;> exact ⟨rfl, rfl, rfl⟩
structure ArcMade (size : Int) (it : Itm) : Prop where
 kind : it.kind = 3
 plane : isPl it.plane
 dir : it.dir = 1 \/ it.dir = -1
 ends : ∃ r k t g h : Int, 8 <= r /\ r < 8 + size /\ 0 <= k /\ k <= 3 /\ 0 <= t /\ t <= 3 /\ 0 <= g /\ g <= 4 /\ (h = 0 \/ h = 7 \/ h = -12) /\ (t = 0 -> g = 0) /\ it.full = decide (t = 0) /\
  it.ce = spP it.plane (plU it.plane it.fr - rotU r k) (plW it.plane it.fr - rotW r k) (plH it.plane it.fr) /\
  it.to = spP it.plane (plU it.plane it.fr - rotU r k + rotU (r + g) (k + t)) (plW it.plane it.fr - rotW r k + rotW (r + g) (k + t)) (plH it.plane it.fr + h)

theorem rot_bd {r k : Int} (hr : 0 <= r) : (-r <= rotU r k /\ rotU r k <= r) /\ (-r <= rotW r k /\ rotW r k <= r) := by
 unfold rotU rotW
 constructor <;> constructor <;> split <;> (try split) <;> omega
theorem rot_div {r : Int} (hr : 1 <= r) (k : Int) : ((rotU r k).tdiv r = rotU 1 k) /\ ((rotW r k).tdiv r = rotW 1 k) := by
 have h1 : r.tdiv r = 1 := Int.tdiv_self (by omega)
 have h2 : (-r).tdiv r = -1 := by rw [Int.neg_tdiv, h1]
 unfold rotU rotW
 constructor <;> split <;> (try split) <;> simp [h1, h2]
theorem rot_far (r k e f : Int) : ∃ g, (g = e \/ g = f) /\ rotU r k + rotU 1 k * e = rotU (r + g) k /\ rotW r k + rotW 1 k * f = rotW (r + g) k := by
 unfold rotU rotW
 by_cases h : k % 4 = 0 \/ k % 4 = 2
 ·refine ⟨e, .inl rfl, ?_, ?_⟩
  ·rcases h with h | h <;> simp [h] <;> omega
  ·rcases h with h | h <;> simp [h]
 ·have hc : k % 4 = 1 \/ k % 4 = 3 := by omega
  refine ⟨f, .inr rfl, ?_, ?_⟩
  ·rcases hc with h | h <;> simp [h]
  ·rcases hc with h | h <;> simp [h] <;> omega
theorem pl_bd {pl : Int} {p : Pt} {b : Nat} (h : bd b p) : (plU pl p).natAbs <= b /\ (plW pl p).natAbs <= b /\ (plH pl p).natAbs <= b := by
 obtain ⟨h1, h2, h3⟩ := h
 unfold plU plW plH
 refine ⟨?_, ?_, ?_⟩ <;> split <;> (try split) <;> assumption

def NextOK (l : List (List AC)) (M : List AC -> Option (List AC)) : Prop := ∀ (k : Nat) {n : Int}, 0 < n /\ n <= 4611686018427387904 ->
  ∃ (v : Int) (k' : Nat), M [I n, .view Qac l, I k] = some [I v, .view Qac l, I k'] /\ 0 <= v /\ v < n /\ k <= k' /\ (k < l.length -> k' = k + 1) /\ (l.length <= k -> k' = k)
abbrev blank (it : Itm) : Prop := it.block = 0 /\ it.side = 0 /\ it.radius = 0 /\ it.speed = 0 /\ it.on = false
theorem plane_at {v : Int} (h : 0 <= v /\ v < 3) : Qaq (nth .dead (nth [] [[I 17], [I 18], [I 19]] v.toNat) 0) = 17 + v := by
 have hc : v = 0 \/ v = 1 \/ v = 2 := by omega
 rcases hc with rfl | rfl | rfl <;> rfl
theorem height_at {v : Int} (h : 0 <= v /\ v < 4) : ∃ x, Qaq (nth .dead (nth [] [[I 0], [I 0], [I 7], [I (-12)]] v.toNat) 0) = x /\ (x = 0 \/ x = 7 \/ x = -12) := by
 have hc : v = 0 \/ v = 1 \/ v = 2 \/ v = 3 := by omega
 rcases hc with rfl | rfl | rfl | rfl <;> exact ⟨_, rfl, by decide⟩

theorem a_arc {MS MT MP MN : List AC -> Option (List AC)} {l : List (List AC)} (hN : NextOK l MN)
  (hP : ∀ {p : Pt} {pl : Int}, isPl pl -> MP [I p.x, I p.y, I p.z, I pl] = some [I (plU pl p), I (plW pl p), I (plH pl p)])
  (hS : ∀ {u w h pl : Int}, isPl pl -> MS [I u, I w, I h, I pl] = some (ptR (spP pl u w h)))
  (hT : ∀ {r k : Int}, (0 <= r /\ r <= 1000000) -> (0 <= k /\ k <= 1000) -> MT [I r, I k] = some [I (rotU r k), I (rotW r k)])
  {p : Pt} (hp : bd 100000000 p) {size : Int} (hs : 0 < size /\ size <= 100000) (k : Nat) :
  ∃ (it : Itm) (k' : Nat), mf_cncmill_arc MS MT MP MN [I p.x, I p.y, I p.z, I size, .view Qac l, I k] = some (itmR it ++ [.view Qac l, I k']) /\ k <= k' /\ it.fr = p /\ ArcMade size it /\
   it.feed = 0 /\ it.perRev = false /\ it.blend = 0 /\ it.n = 0 /\ blank it := by
 obtain ⟨v1, k1, e1, a1, b1, c1, -, -⟩ := hN k (n := 3) (by omega)
 obtain ⟨v2, k2, e2, a2, b2, c2, -, -⟩ := hN k1 (n := 2) (by omega)
 obtain ⟨v3, k3, e3, a3, b3, c3, -, -⟩ := hN k2 (n := size) (by omega)
 obtain ⟨v4, k4, e4, a4, b4, c4, -, -⟩ := hN k3 (n := 4) (by omega)
 obtain ⟨v5, k5, e5, a5, b5, c5, -, -⟩ := hN k4 (n := 4) (by omega)
 rw [mf_cncmill_arc_eq]
 simp only [go_sem, e1, e2, e3, e4, e5]
 rw [if_pos (by simp; omega)]
 have hpl : isPl (17 + v1) := by unfold isPl; omega
 have w1 : IntKind.i64.wrap (8 + v3) = 8 + v3 := Qab (by omega)
 have w2 : IntKind.i64.wrap (v4 + v5) = v4 + v5 := Qab (by omega)
 simp only [plane_at ⟨a1, b1⟩, hP hpl, go_sem, w1, w2, hT (r := 8 + v3) (k := v4) (by omega) (by omega), hT (r := 8 + v3) (k := v4 + v5) (by omega) (by omega), hS hpl]
 obtain ⟨q1, q2, q3⟩ := pl_bd (pl := 17 + v1) hp
 obtain ⟨⟨r1, r2⟩, r3, r4⟩ := rot_bd (r := 8 + v3) (k := v4) (by omega)
 obtain ⟨⟨r5, r6⟩, r7, r8⟩ := rot_bd (r := 8 + v3) (k := v4 + v5) (by omega)
 obtain ⟨d1, d2⟩ := rot_div (r := 8 + v3) (by omega) (v4 + v5)
 obtain ⟨⟨r9, r10⟩, r11, r12⟩ := rot_bd (r := 1) (k := v4 + v5) (by omega)
 have w3 : IntKind.i64.wrap (plU (17 + v1) p - rotU (8 + v3) v4) = plU (17 + v1) p - rotU (8 + v3) v4 := Qab (by omega)
 have w4 : IntKind.i64.wrap (plW (17 + v1) p - rotW (8 + v3) v4) = plW (17 + v1) p - rotW (8 + v3) v4 := Qab (by omega)
 have w5 : IntKind.i64.wrap (1 - IntKind.i64.wrap (v2 * 2)) = 1 - v2 * 2 := by rw [Qab (x := v2 * 2) (by omega), Qab (by omega)]
 have w6 : IntKind.i64.wrap (plU (17 + v1) p - rotU (8 + v3) v4 + rotU (8 + v3) (v4 + v5)) = plU (17 + v1) p - rotU (8 + v3) v4 + rotU (8 + v3) (v4 + v5) := Qab (by omega)
 have w7 : IntKind.i64.wrap (plW (17 + v1) p - rotW (8 + v3) v4 + rotW (8 + v3) (v4 + v5)) = plW (17 + v1) p - rotW (8 + v3) v4 + rotW (8 + v3) (v4 + v5) := Qab (by omega)
 rw [w3, w4, w5, w6, w7]
 have hdir : 1 - v2 * 2 = 1 \/ 1 - v2 * 2 = -1 := by omega
 -- the last steps of all three ways
 have fin : ∀ (g : Int) (u w : Int) (k8 : Nat), k5 <= k8 -> 0 <= g -> g <= 4 -> (v5 = 0 -> g = 0) -> u = rotU (8 + v3 + g) (v4 + v5) -> w = rotW (8 + v3 + g) (v4 + v5) -> ∀ v9 : Int, 0 <= v9 /\ v9 < 4 ->
   ∃ it : Itm, [I 3, I 0, I p.x, I p.y, I p.z, I (spP (17 + v1) (plU (17 + v1) p - rotU (8 + v3) v4 + u) (plW (17 + v1) p - rotW (8 + v3) v4 + w) (plH (17 + v1) p + Qaq (nth .dead (nth [] [[I 0], [I 0], [I 7], [I (-12)]] v9.toNat) 0))).x,
    I (spP (17 + v1) (plU (17 + v1) p - rotU (8 + v3) v4 + u) (plW (17 + v1) p - rotW (8 + v3) v4 + w) (plH (17 + v1) p + Qaq (nth .dead (nth [] [[I 0], [I 0], [I 7], [I (-12)]] v9.toNat) 0))).y,
    I (spP (17 + v1) (plU (17 + v1) p - rotU (8 + v3) v4 + u) (plW (17 + v1) p - rotW (8 + v3) v4 + w) (plH (17 + v1) p + Qaq (nth .dead (nth [] [[I 0], [I 0], [I 7], [I (-12)]] v9.toNat) 0))).z,
    I (17 + v1), I (spP (17 + v1) (plU (17 + v1) p - rotU (8 + v3) v4) (plW (17 + v1) p - rotW (8 + v3) v4) (plH (17 + v1) p)).x, I (spP (17 + v1) (plU (17 + v1) p - rotU (8 + v3) v4) (plW (17 + v1) p - rotW (8 + v3) v4) (plH (17 + v1) p)).y, I (spP (17 + v1) (plU (17 + v1) p - rotU (8 + v3) v4) (plW (17 + v1) p - rotW (8 + v3) v4) (plH (17 + v1) p)).z,
    I (1 - v2 * 2), B (decide (v5 = 0)), I 0, B false, I 0, I 0, I 0, I 0, I 0, B false, .view Qac l, I k8] = itmR it ++ [.view Qac l, I k8] /\ it.fr = p /\ ArcMade size it /\ it.feed = 0 /\ it.perRev = false /\ it.blend = 0 /\ it.n = 0 /\ blank it := by
  intro g u w k8 hk8 hg0 hg4 hg5 hu hw v9 hv9
  obtain ⟨x, hx, hx3⟩ := height_at hv9
  rw [hx]
  refine ⟨⟨3, 0, p, _, 17 + v1, _, 1 - v2 * 2, decide (v5 = 0), 0, false, 0, 0, 0, 0, 0, false⟩, rfl, rfl, ⟨rfl, hpl, hdir, 8 + v3, v4, v5, g, x, ?_⟩, rfl, rfl, rfl, rfl, rfl, rfl, rfl, rfl, rfl⟩
  subst hu hw
  exact ⟨by omega, by omega, by omega, by omega, by omega, by omega, hg0, hg4, hx3, hg5, rfl, rfl, rfl⟩
 have hgh : ∀ v9 : Int, 0 <= v9 /\ v9 < 4 -> IntKind.i64.wrap (plH (17 + v1) p + Qaq (nth .dead (nth [] [[I 0], [I 0], [I 7], [I (-12)]] v9.toNat) 0)) = plH (17 + v1) p + Qaq (nth .dead (nth [] [[I 0], [I 0], [I 7], [I (-12)]] v9.toNat) 0) := by
  intro v9 hv9
  obtain ⟨x, hx, hx3⟩ := height_at hv9
  rw [hx]
  exact Qab (by omega)
 have hfull : (v5 == 0) = decide (v5 = 0) := rfl
 by_cases hv5 : v5 > 0
 ·rw [if_pos hv5]
  obtain ⟨v6, k6, e6, a6, b6, c6, -, -⟩ := hN k5 (n := 3) (by omega)
  simp only [go_sem, e6]
  by_cases hv6 : v6 = 0
  ·rw [if_pos hv6, if_neg (by omega)]
   obtain ⟨v7, k7, e7, a7, b7, c7, -, -⟩ := hN k6 (n := 5) (by omega)
   obtain ⟨v8, k8, e8, a8, b8, c8, -, -⟩ := hN k7 (n := 5) (by omega)
   obtain ⟨v9, k9, e9, a9, b9, c9, -, -⟩ := hN k8 (n := 4) (by omega)
   simp only [go_sem, e7, e8, e9]
   rw [if_neg (by omega), if_pos (by simp; omega), hgh v9 ⟨a9, b9⟩, d1, d2]
   obtain ⟨g, hg, hu, hw⟩ := rot_far (8 + v3) (v4 + v5) v7 v8
   have mu : -4 <= rotU 1 (v4 + v5) * v7 /\ rotU 1 (v4 + v5) * v7 <= 4 := by
    have hc : rotU 1 (v4 + v5) = -1 \/ rotU 1 (v4 + v5) = 0 \/ rotU 1 (v4 + v5) = 1 := by omega
    rcases hc with h | h | h <;> rw [h] <;> omega
   have mw : -4 <= rotW 1 (v4 + v5) * v8 /\ rotW 1 (v4 + v5) * v8 <= 4 := by
    have hc : rotW 1 (v4 + v5) = -1 \/ rotW 1 (v4 + v5) = 0 \/ rotW 1 (v4 + v5) = 1 := by omega
    rcases hc with h | h | h <;> rw [h] <;> omega
   rw [Qab (x := rotU 1 (v4 + v5)) (by omega), Qab (x := rotW 1 (v4 + v5)) (by omega), Qab (x := rotU 1 (v4 + v5) * v7) (by omega), Qab (x := rotW 1 (v4 + v5) * v8) (by omega),
    Qab (x := rotU (8 + v3) (v4 + v5) + _) (by omega), Qab (x := rotW (8 + v3) (v4 + v5) + _) (by omega), hu, hw]
   obtain ⟨⟨s1, s2⟩, s3, s4⟩ := rot_bd (r := 8 + v3 + g) (k := v4 + v5) (by omega)
   rw [Qab (x := _ + rotU (8 + v3 + g) (v4 + v5)) (by omega), Qab (x := _ + rotW (8 + v3 + g) (v4 + v5)) (by omega)]
   obtain ⟨it, h1, h2⟩ := fin g _ _ k9 (by omega) (by omega) (by omega) (by omega) rfl rfl v9 ⟨a9, b9⟩
   refine ⟨it, k9, ?_, by omega, h2⟩
   exact congrArg some h1
  ·rw [if_neg hv6]
   obtain ⟨v9, k9, e9, a9, b9, c9, -, -⟩ := hN k6 (n := 4) (by omega)
   simp only [go_sem, e9]
   rw [if_pos (by simp; omega), hgh v9 ⟨a9, b9⟩]
   obtain ⟨it, h1, h2⟩ := fin 0 _ _ k9 (by omega) (by omega) (by omega) (by omega) (by rw [Int.add_zero]) (by rw [Int.add_zero]) v9 ⟨a9, b9⟩
   refine ⟨it, k9, ?_, by omega, h2⟩
   exact congrArg some h1
 ·rw [if_neg hv5]
  obtain ⟨v9, k9, e9, a9, b9, c9, -, -⟩ := hN k5 (n := 4) (by omega)
  simp only [go_sem, e9]
  rw [if_pos (by simp; omega), hgh v9 ⟨a9, b9⟩]
  obtain ⟨it, h1, h2⟩ := fin 0 _ _ k9 (by omega) (by omega) (by omega) (by omega) (by rw [Int.add_zero]) (by rw [Int.add_zero]) v9 ⟨a9, b9⟩
  refine ⟨it, k9, ?_, by omega, h2⟩
  exact congrArg some h1
theorem nextOK {l : List (List AC)} (hl : Src l) : NextOK l Qao := fun k _ hn => s_Next hl k hn
theorem s_arc {l : List (List AC)} (hl : Src l) {p : Pt} (hp : bd 100000000 p) {size : Int} (hs : 0 < size /\ size <= 100000) (k : Nat) :
  ∃ (it : Itm) (k' : Nat), Qnw [I p.x, I p.y, I p.z, I size, .view Qac l, I k] = some (itmR it ++ [.view Qac l, I k']) /\ k <= k' /\ it.fr = p /\ ArcMade size it /\
   it.feed = 0 /\ it.perRev = false /\ it.blend = 0 /\ it.n = 0 /\ blank it :=
 a_arc (nextOK hl) s_Plane s_Space s_turned hp hs k
end Go.Bm
/- motions and lists of motions, as the maker makes them -/
set_option maxRecDepth 100000
namespace Go.Bm

structure Made (it : Itm) : Prop where
 kind : 1 <= it.kind /\ it.kind <= 6
 line : it.kind ≠ 3 -> (it.to.x - it.fr.x).natAbs <= 16 /\ (it.to.y - it.fr.y).natAbs <= 16 /\ (it.to.z - it.fr.z).natAbs <= 16
 arc : it.kind = 3 -> ArcMade 8 it
 feed : it.kind ≠ 1 -> 1 <= it.feed /\ it.feed <= 60000000
 blend : 0 <= it.blend /\ it.blend <= 9
 sync : it.kind = 5 \/ it.kind = 6 -> it.blend = 0 /\ it.feed <= 60
 free : it.kind <= 4 -> it.perRev = false
 full : it.kind ≠ 3 -> it.full = false
theorem feed_at {v : Int} (h : 0 <= v /\ v < 5) : ∃ x, Qaq (nth .dead (nth [] [[I 300000], [I 1], [I 60000], [I 2000000], [I 60000000]] v.toNat) 0) = x /\ 1 <= x /\ x <= 60000000 := by
 have hc : v = 0 \/ v = 1 \/ v = 2 \/ v = 3 \/ v = 4 := by omega
 rcases hc with rfl | rfl | rfl | rfl | rfl <;> exact ⟨_, rfl, by decide⟩
theorem blend_at {v : Int} (h : 0 <= v /\ v < 5) : ∃ x, Qaq (nth .dead (nth [] [[I 0], [I 1], [I 2], [I 4], [I 9]] v.toNat) 0) = x /\ 0 <= x /\ x <= 9 := by
 have hc : v = 0 \/ v = 1 \/ v = 2 \/ v = 3 \/ v = 4 := by omega
 rcases hc with rfl | rfl | rfl | rfl | rfl <;> exact ⟨_, rfl, by decide⟩
theorem arc_upd {size : Int} {it : Itm} (h : ArcMade size it) (f b : Int) (pr : Bool) (n : Int) : ArcMade size { it with feed := f, blend := b, perRev := pr, n := n } := ⟨h.kind, h.plane, h.dir, h.ends⟩

theorem a_motion {MA MN : List AC -> Option (List AC)} {l : List (List AC)} (hN : NextOK l MN)
  (hA : ∀ {p : Pt}, bd 100000000 p -> ∀ k : Nat, ∃ (it : Itm) (k' : Nat), MA [I p.x, I p.y, I p.z, I 8, .view Qac l, I k] = some (itmR it ++ [.view Qac l, I k']) /\ k <= k' /\ it.fr = p /\ ArcMade 8 it /\ it.feed = 0 /\ it.perRev = false /\ it.blend = 0 /\ it.n = 0 /\ blank it)
  {p : Pt} (hp : bd 100000000 p) {kind : Int} (hk : 1 <= kind /\ kind <= 6) (k : Nat) :
  ∃ (it : Itm) (k' : Nat), mf_cncmill_motion MN MA [I p.x, I p.y, I p.z, I kind, .view Qac l, I k] = some (itmR it ++ [.view Qac l, I k']) /\ k <= k' /\ it.fr = p /\ it.kind = kind /\ Made it /\ blank it := by
 rw [mf_cncmill_motion_eq]
 obtain ⟨hp1, hp2, hp3⟩ := hp
 by_cases h3 : kind = 3
 ·subst h3
  obtain ⟨it, k1, e1, c1, g1, g2, g3, g4, g5, g6, g7, g8, g9, g10, g11⟩ := hA ⟨hp1, hp2, hp3⟩ k
  obtain ⟨v2, k2, e2, a2, b2, c2, -, -⟩ := hN k1 (n := 5) (by omega)
  obtain ⟨v3, k3, e3, a3, b3, c3, -, -⟩ := hN k2 (n := 5) (by omega)
  simp only [go_sem, e1, itmR, List.cons_append, List.nil_append, e2, e3]
  rw [if_neg (by omega), if_pos (by simp; omega), if_pos (by simp; omega), if_neg (by omega), if_neg (by omega), if_neg (by omega)]
  obtain ⟨f, hf, hf1, hf2⟩ := feed_at ⟨a2, b2⟩
  obtain ⟨b, hb, hb1, hb2⟩ := blend_at ⟨a3, b3⟩
  rw [hf, hb]
  have hka := g2.kind
  refine ⟨{ it with feed := f, blend := b, perRev := it.perRev, n := it.n }, k3, rfl, by omega, g1, hka, ⟨?_, ?_, ?_, ?_, ?_, ?_, ?_, ?_⟩, g7, g8, g9, g10, g11⟩
  ·show 1 <= it.kind /\ it.kind <= 6; omega
  ·exact fun h => absurd hka h
  ·exact fun _ => arc_upd g2 f b _ _
  ·exact fun _ => ⟨hf1, hf2⟩
  ·exact ⟨hb1, hb2⟩
  ·intro h; change it.kind = 5 \/ it.kind = 6 at h; omega
  ·exact fun _ => g4
  ·exact fun h => absurd hka h
 ·simp only [go_sem]
  rw [if_neg h3]
  obtain ⟨v1, k1, e1, a1, b1, c1, -, -⟩ := hN k (n := 25) (by omega)
  obtain ⟨v2, k2, e2, a2, b2, c2, -, -⟩ := hN k1 (n := 25) (by omega)
  obtain ⟨v3, k3, e3, a3, b3, c3, -, -⟩ := hN k2 (n := 3) (by omega)
  obtain ⟨v4, k4, e4, a4, b4, c4, -, -⟩ := hN k3 (n := 9) (by omega)
  obtain ⟨v5, k5, e5, a5, b5, c5, -, -⟩ := hN k4 (n := 2) (by omega)
  simp only [go_sem, e1, e2, e3, e4, e5]
  have hm : 0 <= v3 * v4 /\ v3 * v4 <= 16 := by
   have hc : v3 = 0 \/ v3 = 1 \/ v3 = 2 := by omega
   rcases hc with rfl | rfl | rfl <;> omega
  generalize v3 * v4 = m at hm
  have w1 : IntKind.i64.wrap (IntKind.i64.wrap (p.x + v1) - 12) = p.x + v1 - 12 := by rw [Qab (x := p.x + v1) (by omega), Qab (by omega)]
  have w2 : IntKind.i64.wrap (IntKind.i64.wrap (p.y + v2) - 12) = p.y + v2 - 12 := by rw [Qab (x := p.y + v2) (by omega), Qab (by omega)]
  have w3 : IntKind.i64.wrap (IntKind.i64.wrap (p.z + IntKind.i64.wrap m) - IntKind.i64.wrap (8 * v5)) = p.z + m - 8 * v5 := by
   rw [Qab (x := m) (by omega), Qab (x := p.z + m) (by omega), Qab (x := 8 * v5) (by omega), Qab (by omega)]
  rw [w1, w2, w3]
  -- the item, whatever its kind
  have mk : ∀ (f b n : Int) (pr : Bool), (kind ≠ 1 -> 1 <= f /\ f <= 60000000) -> (0 <= b /\ b <= 9) -> (kind = 5 \/ kind = 6 -> b = 0 /\ f <= 60) -> (kind <= 4 -> pr = false) ->
    ∃ it : Itm, itmR it = [I kind, I 0, I p.x, I p.y, I p.z, I (p.x + v1 - 12), I (p.y + v2 - 12), I (p.z + m - 8 * v5), I 0, I 0, I 0, I 0, I 0, B false, I f, B pr, I 0, I 0, I b, I n, I 0, B false] /\ it.fr = p /\ it.kind = kind /\ Made it /\ blank it := by
   intro f b n pr h1 h2 h4 h5
   refine ⟨⟨kind, 0, p, ⟨p.x + v1 - 12, p.y + v2 - 12, p.z + m - 8 * v5⟩, 0, ⟨0, 0, 0⟩, 0, false, f, pr, 0, 0, b, n, 0, false⟩, rfl, rfl, rfl, ⟨hk, fun _ => ?_, fun h => absurd h h3, h1, h2, h4, h5, fun _ => rfl⟩, rfl, rfl, rfl, rfl, rfl⟩
   show (p.x + v1 - 12 - p.x).natAbs <= 16 /\ (p.y + v2 - 12 - p.y).natAbs <= 16 /\ (p.z + m - 8 * v5 - p.z).natAbs <= 16
   omega
  have en : ∀ (f b n : Int) (pr : Bool) (k' : Nat), k <= k' -> (kind ≠ 1 -> 1 <= f /\ f <= 60000000) -> (0 <= b /\ b <= 9) -> (kind = 5 \/ kind = 6 -> b = 0 /\ f <= 60) -> (kind <= 4 -> pr = false) ->
    ∃ (it : Itm) (k'' : Nat), some [I kind, I 0, I p.x, I p.y, I p.z, I (p.x + v1 - 12), I (p.y + v2 - 12), I (p.z + m - 8 * v5), I 0, I 0, I 0, I 0, I 0, B false, I f, B pr, I 0, I 0, I b, I n, I 0, B false, .view Qac l, I k'] = some (itmR it ++ [.view Qac l, I k'']) /\ k <= k'' /\ it.fr = p /\ it.kind = kind /\ Made it /\ blank it := by
   intro f b n pr k' h0 h1 h2 h4 h5
   obtain ⟨it, i1, i2⟩ := mk f b n pr h1 h2 h4 h5
   refine ⟨it, k', ?_, h0, i2⟩
   rw [i1]
   rfl
  by_cases h1 : kind = 1
  ·rw [if_pos h1]
   exact en _ _ _ _ _ (by omega) (fun h => absurd h1 h) (by omega) (by omega) (fun _ => rfl)
  ·rw [if_neg h1]
   obtain ⟨v6, k6, e6, a6, b6, c6, -, -⟩ := hN k5 (n := 5) (by omega)
   obtain ⟨v7, k7, e7, a7, b7, c7, -, -⟩ := hN k6 (n := 5) (by omega)
   obtain ⟨v8, k8, e8, a8, b8, c8, -, -⟩ := hN k7 (n := 60) (by omega)
   obtain ⟨v9, k9, e9, a9, b9, c9, -, -⟩ := hN k8 (n := 2) (by omega)
   simp only [go_sem, e6, e7, e8, e9]
   rw [if_pos (by simp; omega), if_pos (by simp; omega)]
   obtain ⟨f, hf, hf1, hf2⟩ := feed_at ⟨a6, b6⟩
   obtain ⟨b, hb, hb1, hb2⟩ := blend_at ⟨a7, b7⟩
   rw [hf, hb, Qab (x := 1 + v8) (by omega), Qab (x := 3 + v9) (by omega)]
   by_cases h5 : kind = 5
   ·rw [if_pos h5, if_neg (by omega)]
    exact en _ _ _ _ _ (by omega) (by omega) (by omega) (by omega) (by omega)
   ·rw [if_neg h5]
    by_cases h6 : kind = 6
    ·rw [if_pos h6, if_pos h6]
     exact en _ _ _ _ _ (by omega) (by omega) (by omega) (by omega) (by omega)
    ·rw [if_neg h6]
     by_cases h4 : kind = 4
     ·rw [if_pos h4]
      exact en _ _ _ _ _ (by omega) (by omega) (by omega) (by omega) (fun _ => rfl)
     ·rw [if_neg h4]
      exact en _ _ _ _ _ (by omega) (by omega) (by omega) (by omega) (fun _ => rfl)
theorem s_motion {l : List (List AC)} (hl : Src l) {p : Pt} (hp : bd 100000000 p) {kind : Int} (hk : 1 <= kind /\ kind <= 6) (k : Nat) :
  ∃ (it : Itm) (k' : Nat), Qe0 [I p.x, I p.y, I p.z, I kind, .view Qac l, I k] = some (itmR it ++ [.view Qac l, I k']) /\ k <= k' /\ it.fr = p /\ it.kind = kind /\ Made it /\ blank it :=
 a_motion (nextOK hl) (fun hp k => s_arc hl hp (by omega) k) hp hk k
end Go.Bm
/- the maker's list of motions -/
set_option maxRecDepth 100000
namespace Go.Bm

def Chained : Pt -> List Itm -> Prop
 | _, [] => True
 | p, it :: l => it.fr = p /\ Chained it.to l
structure Motions (B : Nat) (p : Pt) (l : List Itm) : Prop where
 chain : Chained p l
 made : ∀ it ∈ l, Made it /\ blank it /\ it.kind <= 3 /\ bd B it.fr /\ bd B it.to
theorem arc_bd {size : Int} {b : Nat} {it : Itm} (h : ArcMade size it) (hs : size <= 1000) (hf : bd b it.fr) : bd (b + 2 * (12 + size.toNat)) it.to /\ bd (b + 8 + size.toNat) it.ce := by
 obtain ⟨r, k, t, g, x, h1, h2, h3, h4, h5, h6, h7, h8, h9, h10, h11, h12, h13⟩ := h.ends
 obtain ⟨q1, q2, q3⟩ := pl_bd (pl := it.plane) hf
 obtain ⟨⟨r1, r2⟩, r3, r4⟩ := rot_bd (r := r) (k := k) (by omega)
 obtain ⟨⟨r5, r6⟩, r7, r8⟩ := rot_bd (r := r + g) (k := k + t) (by omega)
 rw [h12, h13]
 unfold bd spP
 constructor <;> split <;> (try split) <;> refine ⟨?_, ?_, ?_⟩ <;> simp only <;> omega
theorem made_bd {b : Nat} {it : Itm} (h : Made it) (hf : bd b it.fr) : bd (b + 40) it.to := by
 by_cases h3 : it.kind = 3
 ·exact Qbv (arc_bd (h.arc h3) (by omega) hf).1 (by omega)
 ·obtain ⟨h1, h2, h4⟩ := h.line h3
  obtain ⟨g1, g2, g3⟩ := hf
  exact ⟨by omega, by omega, by omega⟩
end Go.Bm
/- which motions can be drawn: the program's answer and the reference's -/
set_option maxRecDepth 100000
namespace Go.Bm

instance (pl : Int) : Decidable (isPl pl) := by unfold isPl; infer_instance
instance (A : Nat) (p : Pt) : Decidable (bd A p) := by unfold bd; infer_instance
def dU (it : Itm) (p : Pt) : Int := plU it.plane p - plU it.plane it.ce
def dW (it : Itm) (p : Pt) : Int := plW it.plane p - plW it.plane it.ce
def sq2 (u w : Int) : Int := u * u + w * w
def crs (u w x y : Int) : Int := u * y - w * x
def dt2 (u w x y : Int) : Int := u * x + w * y
def qA (it : Itm) : Int := sq2 (dU it it.fr) (dW it it.fr)
def qB (it : Itm) : Int := sq2 (dU it it.to) (dW it it.to)
def cAB (it : Itm) : Int := crs (dU it it.fr) (dW it it.fr) (dU it it.to) (dW it it.to)
def dAB (it : Itm) : Int := dt2 (dU it it.fr) (dW it it.fr) (dU it it.to) (dW it it.to)
def nearQ (X Y : Int) : Prop := X + Y - 16 <= 0 \/ (X + Y - 16) * (X + Y - 16) <= 4 * X * Y
def turnOK (it : Itm) : Prop := 64 <= qA it /\ 64 <= qB it /\ nearQ (qA it) (qB it) /\ (it.full = true -> dU it it.fr = dU it it.to /\ dW it it.fr = dW it it.to) /\ (it.full = false -> cAB it ≠ 0 \/ dAB it < 0)
def arcOK (it : Itm) : Prop := isPl it.plane /\ (it.dir = 1 \/ it.dir = -1) /\ bd 1048576 it.ce /\ turnOK it
def Qkp (it : Itm) : Prop := (1 <= it.kind /\ it.kind <= 6) /\ bd 1048576 it.fr /\ bd 1048576 it.to /\ (it.kind = 3 -> arcOK it)

theorem dU_bd {it : Itm} {p : Pt} {b c : Nat} (hc : bd c it.ce) (h : bd b p) : (dU it p).natAbs <= b + c /\ (dW it p).natAbs <= b + c := by
 obtain ⟨h1, h2, h3⟩ := pl_bd (pl := it.plane) h
 obtain ⟨g1, g2, g3⟩ := pl_bd (pl := it.plane) hc
 unfold dU dW
 omega
theorem sq_nat (x : Int) {b : Nat} (h : x.natAbs <= b) : 0 <= x * x /\ x * x <= ((b * b : Nat) : Int) := by
 have h1 := mul_bd h h
 have h2 : 0 <= x * x := by rw [<- Int.natAbs_mul_self]; omega
 omega
theorem sq2_bd {u w : Int} {b : Nat} (hu : u.natAbs <= b) (hw : w.natAbs <= b) : 0 <= sq2 u w /\ sq2 u w <= ((2 * (b * b) : Nat) : Int) := by
 have h1 := sq_nat u hu
 have h2 := sq_nat w hw
 unfold sq2
 omega
theorem dt2_bd {u w x y : Int} {b c : Nat} (hu : u.natAbs <= b) (hw : w.natAbs <= b) (hx : x.natAbs <= c) (hy : y.natAbs <= c) : (dt2 u w x y).natAbs <= 2 * (b * c) /\ (crs u w x y).natAbs <= 2 * (b * c) := by
 have h1 := mul_bd hu hx
 have h2 := mul_bd hw hy
 have h3 := mul_bd hu hy
 have h4 := mul_bd hw hx
 unfold dt2 crs
 omega
theorem near_core {X Y : Int} (hX : 64 <= X) (hY : 64 <= Y) : nearQ X Y ↔ (max X Y - min X Y - 16 <= 0 \/ (max X Y - min X Y - 16) * (max X Y - min X Y - 16) <= 64 * min X Y) := by
 unfold nearQ
 have key : ∀ M m : Int, 64 <= M -> 64 <= m -> m <= M -> ((M + m - 16 <= 0 \/ (M + m - 16) * (M + m - 16) <= 4 * M * m) ↔ (M - m - 16 <= 0 \/ (M - m - 16) * (M - m - 16) <= 64 * m)) := by
  intro M m h1 h2 h3
  have e : (M - m - 16) * (M - m - 16) - 64 * m = (M + m - 16) * (M + m - 16) - 4 * M * m := by grind
  by_cases hk : M - m - 16 <= 0
  ·refine iff_of_true (.inr ?_) (.inl hk)
   have h5 : (16 - (M - m)) * (M - m + 16) >= 0 := Int.mul_nonneg (by omega) (by omega)
   have h6 : (M + m - 16) * (M + m - 16) - 4 * M * m = 512 - (16 - (M - m)) * (M - m + 16) - 32 * (M + m) := by grind
   omega
  ·constructor
   ·rintro (h | h)
    ·omega
    ·exact .inr (by omega)
   ·rintro (h | h)
    ·omega
    ·exact .inr (by omega)
 by_cases h : X <= Y
 ·rw [Int.max_eq_right h, Int.min_eq_left h, <- key Y X hY hX h]
  have e1 : X + Y - 16 = Y + X - 16 := by omega
  have e2 : 4 * X * Y = 4 * Y * X := by grind
  rw [e1, e2]
 ·rw [Int.max_eq_left (by omega), Int.min_eq_right (by omega), <- key X Y hX hY (by omega)]

end Go.Bm
/- which motions can be drawn: the program's answer -/
set_option maxRecDepth 100000
namespace Go.Bm

theorem s_curve_within (p : Pt) : Qia [I p.x, I p.y, I p.z] = some [B (decide (bd 1048576 p))] := by
 unfold Qia
 rw [mf_curve_within_eq]
 simp only [go_sem]
 by_cases h : bd 1048576 p
 ·obtain ⟨h1, h2, h3⟩ := h
  rw [if_neg (by omega), if_neg (by omega), if_neg (by omega), if_neg (by omega), if_neg (by omega), if_neg (by omega)]
  congr 3
  symm
  exact decide_eq_true ⟨h1, h2, h3⟩
 ·have e : decide (bd 1048576 p) = false := decide_eq_false h
  rw [e]
  unfold bd at h
  by_cases c1 : p.x < -1048576
  ·rw [if_pos c1]
  rw [if_neg c1]
  by_cases c2 : p.x > 1048576
  ·rw [if_pos c2]
  rw [if_neg c2]
  by_cases c3 : p.y < -1048576
  ·rw [if_pos c3]
  rw [if_neg c3]
  by_cases c4 : p.y > 1048576
  ·rw [if_pos c4]
  rw [if_neg c4]
  by_cases c5 : p.z < -1048576
  ·rw [if_pos c5]
  rw [if_neg c5, if_pos (by omega)]
def axI (pl : Int) : Int × Int × Int := if pl = 17 then (0, 1, 2) else if pl = 18 then (2, 0, 1) else if pl = 19 then (1, 2, 0) else (0, 0, 0)
theorem s_curve_axes (pl : Int) : Qdi [I pl] = some [I (axI pl).1, I (axI pl).2.1, I (axI pl).2.2, B (decide (isPl pl))] := by
 unfold Qdi
 rw [mf_curve_axes_eq]
 simp only [go_sem]
 unfold axI isPl
 by_cases h1 : pl = 17
 ·rw [if_pos h1, if_pos h1]; simp [h1]
 rw [if_neg h1, if_neg h1]
 by_cases h2 : pl = 18
 ·rw [if_pos h2, if_pos h2]; simp [h2]
 rw [if_neg h2, if_neg h2]
 by_cases h3 : pl = 19
 ·rw [if_pos h3, if_pos h3]; simp [h3]
 rw [if_neg h3, if_neg h3]; simp [h1, h2, h3]
theorem a_curve_Plane {M : List AC -> Option (List AC)} (hM : ∀ pl : Int, M [I pl] = some [I (axI pl).1, I (axI pl).2.1, I (axI pl).2.2, B (decide (isPl pl))]) {p : Pt} {pl : Int} (hp : isPl pl) :
  mf_curve_Plane M [I p.x, I p.y, I p.z, I pl] = some [I (plU pl p), I (plW pl p), I (plH pl p)] := by
 rw [mf_curve_Plane_eq]
 simp only [go_sem, hM]
 rw [if_neg (by simpa using hp)]
 rcases hp with rfl | rfl | rfl <;> rfl
theorem s_curve_Plane {p : Pt} {pl : Int} (hp : isPl pl) : Qeq [I p.x, I p.y, I p.z, I pl] = some [I (plU pl p), I (plW pl p), I (plH pl p)] := a_curve_Plane s_curve_axes hp
def fine (p : Pt) : Pt := ⟨p.x * 16, p.y * 16, p.z * 16⟩
theorem fine_bd {b : Nat} {p : Pt} (h : bd b p) : bd (b * 16) (fine p) := by
 obtain ⟨h1, h2, h3⟩ := h
 unfold fine
 exact ⟨by simp only; omega, by simp only; omega, by simp only; omega⟩
theorem pl_fine (pl : Int) (p : Pt) : plU pl (fine p) = plU pl p * 16 /\ plW pl (fine p) = plW pl p * 16 /\ plH pl (fine p) = plH pl p * 16 := by
 unfold plU plW plH fine
 refine ⟨?_, ?_, ?_⟩ <;> split <;> (try split) <;> rfl
theorem s_curve_scaled {p : Pt} (h : bd 100000000 p) : Qdk [I p.x, I p.y, I p.z] = some (ptR (fine p)) := by
 unfold Qdk
 rw [mf_curve_scaled_eq]
 obtain ⟨h1, h2, h3⟩ := h
 rw [Qab (by omega), Qab (by omega), Qab (by omega)]
 rfl
theorem s_curve_dot {u w r h x y s g : Int} (hu : u.natAbs <= 1000000000) (hw : w.natAbs <= 1000000000) (hx : x.natAbs <= 1000000000) (hy : y.natAbs <= 1000000000) : Qey [I u, I w, I r, I h, I x, I y, I s, I g] = some [I (dt2 u w x y)] := by
 unfold Qey
 rw [mf_curve_dot_eq]
 have h1 := mul_bd hu hx
 have h2 := mul_bd hw hy
 unfold dt2
 rw [Qab (x := u * x) (by omega), Qab (x := w * y) (by omega), Qab (by omega)]
theorem s_curve_cross {u w r h x y s g : Int} (hu : u.natAbs <= 1000000000) (hw : w.natAbs <= 1000000000) (hx : x.natAbs <= 1000000000) (hy : y.natAbs <= 1000000000) : Qds [I u, I w, I r, I h, I x, I y, I s, I g] = some [I (crs u w x y)] := by
 unfold Qds
 rw [mf_curve_cross_eq]
 have h1 := mul_bd hu hy
 have h2 := mul_bd hw hx
 unfold crs
 rw [Qab (x := u * y) (by omega), Qab (x := w * x) (by omega), Qab (by omega)]
theorem a_curve_near {M : List AC -> Option (List AC)} (hM : ∀ {a b c d : Int}, i64 a -> i64 b -> i64 c -> i64 d -> M [I a, I b, I c, I d] = some [I (cmpI (a * b) (c * d))]) {X Y : Int} (hX : 64 <= X /\ X <= 1000000000000000) (hY : 64 <= Y /\ Y <= 1000000000000000) :
  ∃ v, mf_curve_near M [I X, I Y] = some [B v] /\ (v = true ↔ nearQ X Y) := by
 rw [mf_curve_near_eq, near_core hX.1 hY.1]
 have hmx : mx X Y = max X Y := by unfold mx; rw [Int.max_def]; split <;> split <;> omega
 have hmn : mn X Y = min X Y := by unfold mn; rw [Int.min_def]; split <;> split <;> omega
 have hx1 : max X Y <= 1000000000000000 /\ 64 <= max X Y := by omega
 have hx2 : min X Y <= 1000000000000000 /\ 64 <= min X Y := by omega
 rw [hmx, hmn]
 generalize max X Y = a at *
 generalize min X Y = b at *
 simp only [go_sem]
 rw [Qab (x := a - b) (by omega), Qab (x := a - b - 16) (by omega)]
 by_cases c1 : a - b - 16 <= 0
 ·rw [if_pos c1]; exact ⟨_, rfl, iff_of_true rfl (.inl c1)⟩
 ·rw [if_neg c1, hM (by unfold i64; omega) (by unfold i64; omega) (by unfold i64; omega) (by unfold i64; omega)]
  refine ⟨_, rfl, ?_⟩
  simp only [go_sem, decide_eq_true_eq, cmpI_le]
  exact ⟨fun h => .inr h, fun h => h.resolve_left c1⟩
theorem s_curve_near {X Y : Int} (hX : 64 <= X /\ X <= 1000000000000000) (hY : 64 <= Y /\ Y <= 1000000000000000) : ∃ v, m_curve_near [I X, I Y] = some [B v] /\ (v = true ↔ nearQ X Y) := a_curve_near s_wide_Cmp hX hY

theorem a_curve_ends {MP MS : List AC -> Option (List AC)} {it : Itm} (hP : ∀ p : Pt, MP [I p.x, I p.y, I p.z, I it.plane] = some [I (plU it.plane p), I (plW it.plane p), I (plH it.plane p)]) (hS : ∀ {p : Pt}, bd 100000000 p -> MS [I p.x, I p.y, I p.z] = some (ptR (fine p)))
  (h1 : bd 1048576 it.fr) (h2 : bd 1048576 it.to) (h3 : bd 1048576 it.ce) :
  mf_curve_ends MP MS (Qby (st_curve_ends_4 MP MS)) (itmR it) = some [I (dU it it.fr * 16), I (dW it it.fr * 16), I 0, I (plH it.plane it.fr * 16), I (dU it it.to * 16), I (dW it it.to * 16), I 0, I (plH it.plane it.to * 16)] := by
 rw [mf_curve_ends_eq]
 obtain ⟨q1, q2, q3⟩ := pl_bd (pl := it.plane) h1
 obtain ⟨q4, q5, q6⟩ := pl_bd (pl := it.plane) h2
 obtain ⟨q7, q8, q9⟩ := pl_bd (pl := it.plane) h3
 simp only [hS (Qbv h3 (by omega)), hP, go_sem]
 have w0 : IntKind.i64.wrap (0 + 1) = 1 := Qab (by omega)
 have w1 : IntKind.i64.wrap (1 + 1) = 2 := Qab (by omega)
 have f1 := pl_fine it.plane it.fr
 have f2 := pl_fine it.plane it.to
 have f3 := pl_fine it.plane it.ce
 have u1 : IntKind.i64.wrap (plU it.plane (fine it.fr) - plU it.plane (fine it.ce)) = dU it it.fr * 16 := by rw [f1.1, f3.1]; unfold dU; rw [Qab (by omega)]; omega
 have u2 : IntKind.i64.wrap (plW it.plane (fine it.fr) - plW it.plane (fine it.ce)) = dW it it.fr * 16 := by rw [f1.2.1, f3.2.1]; unfold dW; rw [Qab (by omega)]; omega
 have u3 : IntKind.i64.wrap (plU it.plane (fine it.to) - plU it.plane (fine it.ce)) = dU it it.to * 16 := by rw [f2.1, f3.1]; unfold dU; rw [Qab (by omega)]; omega
 have u4 : IntKind.i64.wrap (plW it.plane (fine it.to) - plW it.plane (fine it.ce)) = dW it it.to * 16 := by rw [f2.2.1, f3.2.1]; unfold dW; rw [Qab (by omega)]; omega
 have b1 : bd 100000000 it.fr := Qbv h1 (by omega)
 have b2 : bd 100000000 it.to := Qbv h2 (by omega)
 have e1 := hS b1
 have e2 := hS b2
 rw [Qbr (by rw [Qne]; simp only [go_sem, e1, e2, hP, u1, u2, w0]; rfl), Qbr (by rw [Qne]; simp only [go_sem, e1, e2, hP, u3, u4, w1]; rfl),
  Qb1 (o := (1, _)) (by rw [Qne]; simp only [go_sem]; rfl) (by simp)]
 simp only [go_sem, f1.2.2, f2.2.2]
theorem s_curve_ends {it : Itm} (hp : isPl it.plane) (h1 : bd 1048576 it.fr) (h2 : bd 1048576 it.to) (h3 : bd 1048576 it.ce) :
  Qha (itmR it) = some [I (dU it it.fr * 16), I (dW it it.fr * 16), I 0, I (plH it.plane it.fr * 16), I (dU it it.to * 16), I (dW it it.to * 16), I 0, I (plH it.plane it.to * 16)] :=
 a_curve_ends (fun _ => s_curve_Plane hp) s_curve_scaled h1 h2 h3

theorem cur_tail {MN : List AC -> Option (List AC)} {X Y C D au aw bu bw : Int} {full : Bool} (hX : 0 <= X /\ X <= 1000000000000000) (hY : 0 <= Y /\ Y <= 1000000000000000)
  (hN : ∀ {X Y : Int}, (64 <= X /\ X <= 1000000000000000) -> (64 <= Y /\ Y <= 1000000000000000) -> ∃ v, MN [I X, I Y] = some [B v] /\ (v = true ↔ nearQ X Y)) :
  ∃ v, (if X * 256 < IntKind.i64.wrap (128 * 128) then some [B false] else if Y * 256 < IntKind.i64.wrap (128 * 128) then some [B false] else
   (MN [I (IntKind.i64.wrap ((X * 256).tdiv 256)), I (IntKind.i64.wrap ((Y * 256).tdiv 256))]).bind fun o =>
   if ¬ boolOf (nth .dead o 0) = true then some [B false] else if full = true then if au * 16 = bu * 16 then some [B (aw * 16 == bw * 16)] else some [B false] else if C * 256 ≠ 0 then some [B true] else some [B (decide (D * 256 < 0))]) = some [B v] /\
   (v = true ↔ 64 <= X /\ 64 <= Y /\ nearQ X Y /\ (full = true -> au = bu /\ aw = bw) /\ (full = false -> C ≠ 0 \/ D < 0)) := by
 rw [Qab (x := 128 * 128) (by omega), Int.mul_tdiv_cancel _ (by omega), Int.mul_tdiv_cancel _ (by omega), Qab (x := X) (by omega), Qab (x := Y) (by omega)]
 by_cases c1 : X * 256 < 128 * 128
 ·rw [if_pos c1]; exact ⟨_, rfl, iff_of_false (by simp) fun h => by omega⟩
 rw [if_neg c1]
 by_cases c2 : Y * 256 < 128 * 128
 ·rw [if_pos c2]; exact ⟨_, rfl, iff_of_false (by simp) fun h => by omega⟩
 rw [if_neg c2]
 obtain ⟨v, h1, h2⟩ := hN (X := X) (Y := Y) (by omega) (by omega)
 simp only [h1, go_sem]
 by_cases c3 : v = true
 case neg => rw [if_pos c3]; exact ⟨_, rfl, iff_of_false (by simp) fun h => c3 (h2.2 h.2.2.1)⟩
 rw [if_neg (by simpa using c3)]
 have hn' := h2.1 c3
 cases full with
 | true =>
  rw [if_pos rfl]
  by_cases c4 : au * 16 = bu * 16
  ·rw [if_pos c4]; refine ⟨_, rfl, ?_⟩
   simp only [beq_iff_eq]
   exact ⟨fun h => ⟨by omega, by omega, hn', fun _ => ⟨by omega, by omega⟩, fun h => by simp at h⟩, fun h => by have := (h.2.2.2.1 trivial).2; omega⟩
  ·rw [if_neg c4]; exact ⟨_, rfl, iff_of_false (by simp) fun h => c4 (by have := (h.2.2.2.1 rfl).1; omega)⟩
 | false =>
  rw [if_neg (by simp)]
  by_cases c4 : C * 256 ≠ 0
  ·rw [if_pos c4]; exact ⟨_, rfl, iff_of_true rfl ⟨by omega, by omega, hn', fun h => by simp at h, fun _ => .inl (by omega)⟩⟩
  ·rw [if_neg c4]; refine ⟨_, rfl, ?_⟩
   simp only [decide_eq_true_eq]
   exact ⟨fun h => ⟨by omega, by omega, hn', fun h => by simp at h, fun _ => .inr (by omega)⟩, fun h => by have := (h.2.2.2.2 trivial); omega⟩
theorem dt2_16 (a b c d : Int) : dt2 (a * 16) (b * 16) (c * 16) (d * 16) = dt2 a b c d * 256 /\ crs (a * 16) (b * 16) (c * 16) (d * 16) = crs a b c d * 256 := by
 unfold dt2 crs
 constructor <;> grind
theorem a_curve_Valid {MC MN MD ME MA MW : List AC -> Option (List AC)} (hA : ∀ pl : Int, MA [I pl] = some [I (axI pl).1, I (axI pl).2.1, I (axI pl).2.2, B (decide (isPl pl))]) (hW : ∀ p : Pt, MW [I p.x, I p.y, I p.z] = some [B (decide (bd 1048576 p))])
  {it : Itm} (hE : isPl it.plane -> bd 1048576 it.fr -> bd 1048576 it.to -> bd 1048576 it.ce -> ME (itmR it) = some [I (dU it it.fr * 16), I (dW it it.fr * 16), I 0, I (plH it.plane it.fr * 16), I (dU it it.to * 16), I (dW it it.to * 16), I 0, I (plH it.plane it.to * 16)])
  (hD : ∀ {u w r h x y s g : Int}, u.natAbs <= 1000000000 -> w.natAbs <= 1000000000 -> x.natAbs <= 1000000000 -> y.natAbs <= 1000000000 -> MD [I u, I w, I r, I h, I x, I y, I s, I g] = some [I (dt2 u w x y)])
  (hX : ∀ {u w r h x y s g : Int}, u.natAbs <= 1000000000 -> w.natAbs <= 1000000000 -> x.natAbs <= 1000000000 -> y.natAbs <= 1000000000 -> MC [I u, I w, I r, I h, I x, I y, I s, I g] = some [I (crs u w x y)])
  (hN : ∀ {X Y : Int}, (64 <= X /\ X <= 1000000000000000) -> (64 <= Y /\ Y <= 1000000000000000) -> ∃ v, MN [I X, I Y] = some [B v] /\ (v = true ↔ nearQ X Y)) :
  ∃ v, mf_curve_Valid MC MN MD ME MA MW (itmR it) = some [B v] /\ (v = true ↔ Qkp it) := by
 rw [mf_curve_Valid_eq]
 simp only [go_sem, hW, hA]
 by_cases c1 : it.kind < 1
 ·rw [if_pos c1]; exact ⟨_, rfl, iff_of_false (by simp) fun h => by have := h.1; omega⟩
 rw [if_neg c1]
 by_cases c1' : it.kind > 6
 ·rw [if_pos c1']; exact ⟨_, rfl, iff_of_false (by simp) fun h => by have := h.1; omega⟩
 rw [if_neg c1']
 by_cases c2 : bd 1048576 it.fr
 case neg => rw [if_pos (by simpa using c2)]; exact ⟨_, rfl, iff_of_false (by simp) fun h => c2 h.2.1⟩
 rw [if_neg (by simpa using c2)]
 by_cases c3 : bd 1048576 it.to
 case neg => rw [if_pos (by simpa using c3)]; exact ⟨_, rfl, iff_of_false (by simp) fun h => c3 h.2.2.1⟩
 rw [if_neg (by simpa using c3)]
 by_cases c4 : it.kind = 3
 case neg => rw [if_pos c4]; exact ⟨_, rfl, iff_of_true rfl ⟨by omega, c2, c3, fun h => absurd h c4⟩⟩
 rw [if_neg (by simpa using c4)]
 by_cases c5 : isPl it.plane
 case neg => rw [if_pos (by simpa using c5)]; exact ⟨_, rfl, iff_of_false (by simp) fun h => c5 (h.2.2.2 c4).1⟩
 rw [if_neg (by simpa using c5)]
 by_cases c7 : bd 1048576 it.ce
 case neg =>
  refine ⟨false, ?_, iff_of_false (by simp) fun h => c7 (h.2.2.2 c4).2.2.1⟩
  split
  ·split
   ·rfl
   ·first | rfl | (rw [if_pos c7])
  ·first | rfl | (rw [if_pos c7])
 by_cases c6 : it.dir = 1 \/ it.dir = -1
 case neg =>
  rw [if_pos (c := it.dir ≠ 1) (by omega), if_pos (c := it.dir ≠ -1) (by omega)]
  exact ⟨false, rfl, iff_of_false (by simp) fun h => c6 (h.2.2.2 c4).2.1⟩
 have hE' := hE c5 c2 c3 c7
 obtain ⟨b1, b2⟩ := dU_bd (it := it) c7 c2
 obtain ⟨b3, b4⟩ := dU_bd (it := it) c7 c3
 simp only [itmR] at hE'
 have x1 := sq2_bd b1 b2
 have x2 := sq2_bd b3 b4
 have core : Qkp it ↔ 64 <= qA it /\ 64 <= qB it /\ nearQ (qA it) (qB it) /\ (it.full = true -> dU it it.fr = dU it it.to /\ dW it it.fr = dW it it.to) /\ (it.full = false -> cAB it ≠ 0 \/ dAB it < 0) :=
  ⟨fun h => (h.2.2.2 c4).2.2.2, fun h => ⟨by omega, c2, c3, fun _ => ⟨c5, c6, c7, h⟩⟩⟩
 rw [core]
 have x1' : 0 <= qA it /\ qA it <= 1000000000000000 := ⟨x1.1, by unfold qA; omega⟩
 have x2' : 0 <= qB it /\ qB it <= 1000000000000000 := ⟨x2.1, by unfold qB; omega⟩
 have D1 := @hD (dU it it.fr * 16) (dW it it.fr * 16) 0 (plH it.plane it.fr * 16) (dU it it.fr * 16) (dW it it.fr * 16) 0 (plH it.plane it.fr * 16) (by omega) (by omega) (by omega) (by omega)
 have D2 := @hD (dU it it.to * 16) (dW it it.to * 16) 0 (plH it.plane it.to * 16) (dU it it.to * 16) (dW it it.to * 16) 0 (plH it.plane it.to * 16) (by omega) (by omega) (by omega) (by omega)
 have D3 := @hD (dU it it.fr * 16) (dW it it.fr * 16) 0 (plH it.plane it.fr * 16) (dU it it.to * 16) (dW it it.to * 16) 0 (plH it.plane it.to * 16) (by omega) (by omega) (by omega) (by omega)
 have D4 := @hX (dU it it.fr * 16) (dW it it.fr * 16) 0 (plH it.plane it.fr * 16) (dU it it.to * 16) (dW it it.to * 16) 0 (plH it.plane it.to * 16) (by omega) (by omega) (by omega) (by omega)
 rw [(dt2_16 _ _ _ _).1] at D1 D2 D3
 rw [(dt2_16 _ _ _ _).2] at D4
 have e1 : dt2 (dU it it.fr) (dW it it.fr) (dU it it.fr) (dW it it.fr) = qA it := rfl
 have e2 : dt2 (dU it it.to) (dW it it.to) (dU it it.to) (dW it it.to) = qB it := rfl
 have e3 : dt2 (dU it it.fr) (dW it it.fr) (dU it it.to) (dW it it.to) = dAB it := rfl
 have e4 : crs (dU it it.fr) (dW it it.fr) (dU it it.to) (dW it it.to) = cAB it := rfl
 rw [e1] at D1
 rw [e2] at D2
 rw [e3] at D3
 rw [e4] at D4
 have T := @cur_tail MN (qA it) (qB it) (cAB it) (dAB it) (dU it it.fr) (dW it it.fr) (dU it it.to) (dW it it.to) it.full x1' x2' hN
 have n7 : ¬ ¬ bd 1048576 it.ce := fun h => h c7
 by_cases d1 : it.dir = 1
 ·rw [if_neg (c := it.dir ≠ 1) (fun h => h d1), if_neg n7]
  simp only [hE', go_sem, D1, D2, D3, D4]
  exact T
 ·rw [if_pos (c := it.dir ≠ 1) d1, if_neg (c := it.dir ≠ -1) (by omega), if_neg n7]
  simp only [hE', go_sem, D1, D2, D3, D4]
  exact T
theorem s_curve_Valid (it : Itm) : ∃ v, Qdp (itmR it) = some [B v] /\ (v = true ↔ Qkp it) :=
 a_curve_Valid s_curve_axes s_curve_within (fun h1 h2 h3 h4 => s_curve_ends h1 h2 h3 h4) s_curve_dot s_curve_cross s_curve_near

end Go.Bm
/- the reference's spokes: the middle of a piece, the pieces of an arc, its chords -/
set_option maxRecDepth 100000
namespace Go.Bm

def okS (s : Spk) : Prop := s.u.natAbs <= 50000000 /\ s.w.natAbs <= 50000000 /\ (0 <= s.r /\ s.r <= 50000000) /\ s.h.natAbs <= 16777216
def hf (a b : Int) : Int := (a + b + 1) / 2
def midD (a b : Spk) (dir : Int) (full : Bool) : Int × Int :=
 if full = true then (-a.u, -a.w)
 else if 0 < dt2 a.u a.w b.u b.w /\ 0 < crs a.u a.w b.u b.w * dir then (a.u + b.u, a.w + b.w)
 else if 0 < dt2 a.u a.w b.u b.w then (-(a.u + b.u), -(a.w + b.w))
 else (dir * (b.w - a.w), dir * (a.u - b.u))
noncomputable def midOf (a b : Spk) (u w : Int) : Spk := if u = 0 /\ w = 0 then ⟨0, 0, 0, 0⟩ else ⟨Qil u (hf a.r b.r) (sq2 u w), Qil w (hf a.r b.r) (sq2 u w), hf a.r b.r, hf a.h b.h⟩
noncomputable def midS (a b : Spk) (dir : Int) (full : Bool) : Spk := midOf a b (midD a b dir full).1 (midD a b dir full).2
theorem midD_bd {a b : Spk} (ha : okS a) (hb : okS b) {dir : Int} (hd : dir = 1 \/ dir = -1) (full : Bool) : (midD a b dir full).1.natAbs <= 100000000 /\ (midD a b dir full).2.natAbs <= 100000000 := by
 obtain ⟨a1, a2, -⟩ := ha
 obtain ⟨b1, b2, -⟩ := hb
 unfold midD
 split
 ·exact ⟨by simp only; omega, by simp only; omega⟩
 ·split
  ·exact ⟨by simp only; omega, by simp only; omega⟩
  ·split
   ·exact ⟨by simp only; omega, by simp only; omega⟩
   ·rcases hd with rfl | rfl
    ·exact ⟨by simp only; omega, by simp only; omega⟩
    ·exact ⟨by simp only; omega, by simp only; omega⟩
theorem sq2_sq (u w : Int) : u * u <= sq2 u w /\ w * w <= sq2 u w := by
 have h1 := sq_nn u
 have h2 := sq_nn w
 unfold sq2
 omega
theorem sq2_pos {u w : Int} (h : ¬ (u = 0 /\ w = 0)) : 0 < sq2 u w := by
 have h1 := sq_nn u
 have h2 := sq_nn w
 have z : ∀ u : Int, u * u = 0 -> u = 0 := fun u hu => by
  rcases Int.mul_eq_zero.1 hu with h | h <;> exact h
 have h3 : ¬ (u * u = 0 /\ w * w = 0) := fun h4 => h ⟨z _ h4.1, z _ h4.2⟩
 unfold sq2
 omega
theorem hf_bd {a b : Int} (ha : 0 <= a /\ a <= 50000000) (hb : 0 <= b /\ b <= 50000000) : 0 <= hf a b /\ hf a b <= 50000000 := by unfold hf; omega
theorem hf_bd2 {a b : Int} (ha : a.natAbs <= 16777216) (hb : b.natAbs <= 16777216) : (hf a b).natAbs <= 16777216 := by unfold hf; omega
theorem near_S {u w r : Int} (hu : u.natAbs <= 100000000) (hw : w.natAbs <= 100000000) (hr : 0 <= r /\ r <= 50000000) (h : ¬ (u = 0 /\ w = 0)) :
  (Qnq [I u, I r, I (sq2 u w)] = some [I (Qil u r (sq2 u w))] /\ (Qil u r (sq2 u w)).natAbs <= r.natAbs) /\ (Qnq [I w, I r, I (sq2 u w)] = some [I (Qil w r (sq2 u w))] /\ (Qil w r (sq2 u w)).natAbs <= r.natAbs) := by
 have hp := sq2_pos h
 have h1 := sq_bd hu
 have h2 := sq_bd hw
 have h3 : sq2 u w <= 20000000000000000 := by unfold sq2; omega
 obtain ⟨q1, q2⟩ := sq2_sq u w
 have key : ∀ x : Int, x.natAbs <= 100000000 -> x * x <= sq2 u w -> Qnq [I x, I r, I (sq2 u w)] = some [I (Qil x r (sq2 u w))] /\ (Qil x r (sq2 u w)).natAbs <= r.natAbs := by
  intro x hx hq
  obtain ⟨g1, -, g3⟩ := s_cncref23_Near (x := x) (r := r) (n := sq2 u w) (Nat.le_trans hx (by decide)) (by omega) (by omega) hq
  refine ⟨g1, isRnd_le (by omega) ?_ g3⟩
  have : ((x.natAbs * x.natAbs : Nat) : Int) = x * x := Int.natAbs_mul_self
  omega
 exact ⟨key u hu q1, key w hw q2⟩
theorem midOf_ok {a b : Spk} (ha : okS a) (hb : okS b) {u w : Int} (hu : u.natAbs <= 100000000) (hw : w.natAbs <= 100000000) : okS (midOf a b u w) := by
 unfold midOf
 split
 ·exact ⟨by simp, by simp, by simp, by simp⟩
 ·rename_i h
  have hr := hf_bd ha.2.2.1 hb.2.2.1
  obtain ⟨⟨-, n1⟩, -, n2⟩ := near_S hu hw hr h
  exact ⟨by simp only; omega, by simp only; omega, hr, hf_bd2 ha.2.2.2 hb.2.2.2⟩
theorem midS_ok {a b : Spk} (ha : okS a) (hb : okS b) {dir : Int} (hd : dir = 1 \/ dir = -1) (full : Bool) : okS (midS a b dir full) :=
 midOf_ok ha hb (midD_bd ha hb hd full).1 (midD_bd ha hb hd full).2
theorem dir_nat {x : Int} (h : x.natAbs <= 50000000) : x.natAbs <= 1000000000 := Nat.le_trans h (by decide)
def setS (a b : Spk) (dir : Int) (full : Bool) : Prop := full = false /\ 0 < crs a.u a.w b.u b.w * dir /\ sq2 (a.u - b.u) (a.w - b.w) <= 32 * mn a.r b.r - 64
instance {a b : Spk} {dir : Int} {full : Bool} : Decidable (setS a b dir full) := by unfold setS; infer_instance
noncomputable def pcsL (dir : Int) : Nat -> Bool -> Spk -> Spk -> List Spk
 | 0, _, _, b => [b]
 | k + 1, full, a, b => if setS a b dir full then [b] else pcsL dir k false a (midS a b dir full) ++ pcsL dir k false (midS a b dir full) b
theorem pcsL_len {dir : Int} : ∀ (k : Nat) (full : Bool) (a b : Spk), 1 <= (pcsL dir k full a b).length /\ (pcsL dir k full a b).length <= 2 ^ k
 | 0, _, _, b => by simp [pcsL]
 | k + 1, full, a, b => by
  have hp : 0 < 2 ^ k := Nat.two_pow_pos _
  have e3 : 2 ^ (k + 1) = 2 ^ k + 2 ^ k := by rw [Nat.pow_succ]; omega
  unfold pcsL
  split
  ·simp; omega
  ·have h1 := pcsL_len k false a (midS a b dir full) (dir := dir)
   have h2 := pcsL_len k false (midS a b dir full) b (dir := dir)
   rw [List.length_append]
   omega
theorem pcsL_ok {dir : Int} (hd : dir = 1 \/ dir = -1) : ∀ (k : Nat) (full : Bool) {a b : Spk}, okS a -> okS b -> ∀ s ∈ pcsL dir k full a b, okS s
 | 0, _, a, b, _, hb, s, hs => by simp [pcsL] at hs; subst hs; exact hb
 | k + 1, full, a, b, ha, hb, s, hs => by
  unfold pcsL at hs
  have hm := midS_ok ha hb hd full
  split at hs
  ·simp at hs; subst hs; exact hb
  ·rcases List.mem_append.1 hs with hs | hs
   ·exact pcsL_ok hd k false ha hm s hs
   ·exact pcsL_ok hd k false hm hb s hs
end Go.Bm
/- the reference's chords -/
set_option maxRecDepth 100000
namespace Go.Bm

theorem isMid_unique {n i j : Int} (hi : IsMid n i) (hj : IsMid n j) : i = j := by
 have key : ∀ {i j : Int}, IsMid n i -> IsMid n j -> ¬ i < j := by
  rintro i j ⟨h1, h2, -⟩ ⟨h4, h5, h6⟩ hlt
  rcases h6 with h6 | h6
  ·omega
  ·have h7 := Int.mul_le_mul (show i <= j - 1 by omega) (show i + 1 <= j by omega) (by omega) (by omega)
   omega
 have h1 := key hi hj
 have h2 := key hj hi
 omega
open Classical in
noncomputable def midR (n : Int) : Int := if h : ∃ j, IsMid n j then Classical.choose h else 0
theorem midR_of {n k : Int} (h : IsMid n k) : midR n = k := by
 have hx : ∃ j, IsMid n j := ⟨k, h⟩
 unfold midR
 rw [dif_pos hx]
 exact isMid_unique (Classical.choose_spec hx) h
theorem isMid_nat {n r : Nat} (h1 : r * r <= n) (h2 : n < (r + 1) * (r + 1)) : IsMid n (if r * r + r < n then r + 1 else r : Nat) := by
 have e0 : (r + 1) * (r + 1) = r * r + r + r + 1 := by grind
 unfold IsMid
 by_cases c : r * r + r < n
 ·rw [if_pos c]
  have e1 : ((r + 1 : Nat) : Int) * (((r + 1 : Nat) : Int) + 1) = ((r * r + r + r + r + 2 : Nat) : Int) := by
   have : ((r + 1 : Nat) : Int) + 1 = ((r + 2 : Nat) : Int) := by omega
   rw [this, <- Int.natCast_mul]
   congr 1
   grind
  have e2 : (((r + 1 : Nat) : Int) - 1) * ((r + 1 : Nat) : Int) = ((r * r + r : Nat) : Int) := by
   rw [show ((r + 1 : Nat) : Int) - 1 = (r : Int) by omega, <- Int.natCast_mul]
   congr 1
  rw [e1, e2]
  generalize r * r = A at *
  exact ⟨by omega, by omega, .inr (by omega)⟩
 ·rw [if_neg c]
  have e1 : (r : Int) * ((r : Int) + 1) = ((r * r + r : Nat) : Int) := by
   rw [show (r : Int) + 1 = ((r + 1 : Nat) : Int) by omega, <- Int.natCast_mul]
   congr 1
  rw [e1]
  refine ⟨by omega, by omega, ?_⟩
  rcases Nat.eq_zero_or_pos r with h | h
  ·left; omega
  ·right
   have e2 : ((r : Int) - 1) * (r : Int) = (((r - 1) * r : Nat) : Int) := by
    rw [show (r : Int) - 1 = ((r - 1 : Nat) : Int) by omega]; exact (Int.natCast_mul _ _).symm
   have := Nat.mul_lt_mul_of_pos_right (show r - 1 < r by omega) h
   rw [e2]; omega
noncomputable def endS (it : Itm) (p : Pt) : Spk := ⟨dU it p * 16, dW it p * 16, midR (sq2 (dU it p * 16) (dW it p * 16)), plH it.plane p * 16⟩
theorem mid_bd {n : Nat} (hn : n <= 2251799813685248) : 0 <= midR n /\ midR n <= 50000000 := by
 obtain ⟨r, -, h2, h3, -⟩ := s_cncref23_root (n := n) (by omega)
 have hm := isMid_nat h2 h3
 rw [midR_of hm]
 have : r < 50000000 := by
  by_cases c : r < 50000000
  ·exact c
  ·have := Nat.mul_le_mul (show 50000000 <= r by omega) (show 50000000 <= r by omega)
   omega
 split <;> omega
theorem endS_sq {it : Itm} {p : Pt} (hc : bd 1048576 it.ce) (hp : bd 1048576 p) : (dU it p * 16).natAbs <= 33554432 /\ (dW it p * 16).natAbs <= 33554432 /\ 0 <= sq2 (dU it p * 16) (dW it p * 16) /\ sq2 (dU it p * 16) (dW it p * 16) <= 2251799813685248 := by
 obtain ⟨h1, h2⟩ := dU_bd hc hp
 have h3 : (dU it p * 16).natAbs <= 33554432 := by omega
 have h4 : (dW it p * 16).natAbs <= 33554432 := by omega
 have q1 := sq_bd h3
 have q2 := sq_bd h4
 refine ⟨h3, h4, ?_⟩
 unfold sq2
 omega
theorem endS_ok {it : Itm} {p : Pt} (hc : bd 1048576 it.ce) (hp : bd 1048576 p) : okS (endS it p) := by
 obtain ⟨h1, h2, h3, h4⟩ := endS_sq hc hp
 have h5 := (pl_bd (pl := it.plane) hp).2.2
 obtain ⟨n, hn⟩ := Int.eq_ofNat_of_zero_le h3
 refine ⟨Nat.le_trans h1 (by decide), Nat.le_trans h2 (by decide), ?_, ?_⟩
 ·show 0 <= midR _ /\ midR _ <= _
  rw [hn] at h4 ⊢
  exact mid_bd (by omega)
 ·show (plH it.plane p * 16).natAbs <= _
  omega
noncomputable def Qgz (it : Itm) : List Spk := endS it it.fr :: pcsL it.dir 16 it.full (endS it it.fr) (endS it it.to)
theorem spokesP_ok {it : Itm} (h : Qkp it) (h3 : it.kind = 3) : ∀ s ∈ Qgz it, okS s := by
 obtain ⟨-, h1, h2, ha⟩ := h
 obtain ⟨hp, hd, hc, -⟩ := ha h3
 intro s hs
 rcases List.mem_cons.1 hs with rfl | hs
 ·exact endS_ok hc h1
 ·exact pcsL_ok hd 16 _ (endS_ok hc h1) (endS_ok hc h2) s hs
theorem spokesP_len (it : Itm) : 2 <= (Qgz it).length /\ (Qgz it).length <= 65537 := by
 have := pcsL_len (dir := it.dir) 16 it.full (endS it it.fr) (endS it it.to)
 have e : (2 : Nat) ^ 16 = 65536 := rfl
 rw [e] at this
 unfold Qgz
 rw [List.length_cons]
 omega
noncomputable def chPt (it : Itm) (s : Spk) : Pt := spP it.plane (plU it.plane (fine it.ce) + s.u) (plW it.plane (fine it.ce) + s.w) s.h
noncomputable def Qgo (it : Itm) : List Pt := if it.kind = 3 then (Qgz it).map (chPt it) else [fine it.fr, fine it.to]
theorem sp_bd {pl u w h : Int} {b : Nat} (hu : u.natAbs <= b) (hw : w.natAbs <= b) (hh : h.natAbs <= b) : bd b (spP pl u w h) := by
 unfold spP bd
 split
 ·exact ⟨hu, hw, hh⟩
 ·split
  ·exact ⟨hw, hh, hu⟩
  ·exact ⟨hh, hu, hw⟩
theorem chPt_bd {it : Itm} {s : Spk} (hc : bd 1048576 it.ce) (hs : okS s) : bd 67108864 (chPt it s) := by
 obtain ⟨h1, h2, -⟩ := pl_bd (pl := it.plane) (fine_bd hc)
 obtain ⟨s1, s2, -, s4⟩ := hs
 exact sp_bd (by omega) (by omega) (by omega)
theorem chordsP_bd {it : Itm} (h : Qkp it) : ∀ p ∈ Qgo it, bd 67108864 p := by
 intro p hp
 unfold Qgo at hp
 split at hp
 ·rename_i h3
  simp only [List.mem_map] at hp
  obtain ⟨s, hs, rfl⟩ := hp
  exact chPt_bd (h.2.2.2 h3).2.2.1 (spokesP_ok h h3 s hs)
 ·simp at hp
  rcases hp with rfl | rfl
  ·exact Qbv (fine_bd h.2.1) (by decide)
  ·exact Qbv (fine_bd h.2.2.1) (by decide)
theorem chordsP_len (it : Itm) : 2 <= (Qgo it).length /\ (Qgo it).length <= 65537 := by
 have := spokesP_len it
 unfold Qgo
 split <;> simp <;> omega
end Go.Bm
/- the programmed speed of a motion -/
set_option maxRecDepth 100000
namespace Go.Bm
def rate (t : Itm) (speed : Int) : Int := if t.kind = 1 then 0 else mx (near (mn (if t.perRev = true then t.feed * mx speed 1 else t.feed) 60000000 * 4096) 60000) 1
theorem feed_bd {f s : Int} (hf : 0 <= f /\ f <= 60000000) (hs : 0 <= s /\ s <= 30000) : 0 <= f * mx s 1 /\ f * mx s 1 <= 1800000000000 := by
 have h1 : 1 <= mx s 1 /\ mx s 1 <= 30000 := by unfold mx; split <;> omega
 generalize mx s 1 = m at *
 have h2 := Int.mul_le_mul hf.2 h1.2 (by omega) (by omega)
 have h3 := Int.mul_nonneg hf.1 (show 0 <= m by omega)
 omega
theorem mn_bd {x : Int} (h : 0 <= x) : 0 <= mn x 60000000 /\ mn x 60000000 <= 60000000 := by unfold mn; split <;> omega
theorem a_path_Rate {M : List AC -> Option (List AC)} {t : Itm} {speed : Int} (hf : 0 <= t.feed /\ t.feed <= 60000000) (hs : 0 <= speed /\ speed <= 30000)
  (hM : ∀ a : Int, 0 <= a /\ a <= 60000000 -> M [I a, I 4096, I 60000, I 2] = some [I (near (a * 4096) 60000), B true]) : mf_path_Rate M (itmR t ++ [I speed]) = some [I (rate t speed)] := by
 have h1 := feed_bd hf hs
 have h2 := hM _ (mn_bd h1.1)
 have h3 := hM _ (mn_bd hf.1)
 have h4 : IntKind.i64.wrap (t.feed * mx speed 1) = t.feed * mx speed 1 := Qab (by omega)
 simp only [itmR, List.cons_append, List.nil_append]
 rw [mf_path_Rate_eq, h4]
 simp only [go_sem, h2, h3]
 unfold rate
 by_cases g1 : t.kind = 1
 ·rw [if_pos g1, if_pos g1]
 ·rw [if_neg g1, if_neg g1]
  by_cases g2 : t.perRev = true
  ·rw [if_pos g2, if_pos g2]
  ·rw [if_neg g2, if_neg g2]
theorem s_path_Rate {t : Itm} {speed : Int} (hf : 0 <= t.feed /\ t.feed <= 60000000) (hs : 0 <= speed /\ speed <= 30000) : Qiy (itmR t ++ [I speed]) = some [I (rate t speed)] :=
 a_path_Rate hf hs fun a ha => s_wide_MulDiv (by unfold i64; omega) (by unfold i64; omega) (by omega) (by have : a.natAbs * (4096 : Int).natAbs <= 60000000 * 4096 := Nat.mul_le_mul (by omega) (by omega); omega)
end Go.Bm
/- the reference's points of a motion -/
set_option maxRecDepth 100000
namespace Go.Bm

def it0 : Itm := ⟨0, 0, ⟨0, 0, 0⟩, ⟨0, 0, 0⟩, 0, ⟨0, 0, 0⟩, 0, false, 0, false, 0, 0, 0, 0, 0, false⟩
def itA (items : List Itm) (i : Nat) : Itm := items.getD i it0
theorem itA_get {items : List Itm} {i : Nat} (h : i < items.length) : itA items i = items[i] := by unfold itA; simp [h]
theorem itA_mem {items : List Itm} {i : Nat} (h : i < items.length) : itA items i ∈ items := by rw [itA_get h]; exact List.getElem_mem h
theorem Qlw {items : List Itm} {i : Nat} (h : i < items.length) : nth [] (items.map itmR) i = itmR (itA items i) := by rw [itA_get h]; exact nth_map _ _ _ _ h
theorem drop_itA {items : List Itm} {i : Nat} (h : i < items.length) : items.drop i = itA items i :: items.drop (i + 1) := by rw [itA_get h]; exact Qg1 _ _ h
def motI (it : Itm) : Prop := 1 <= it.kind /\ it.kind <= 6
def smI (it : Itm) : Prop := it.kind = 2 /\ it.fr ≠ it.to
def syI (it : Itm) : Prop := it.kind = 5 \/ it.kind = 6
instance (it : Itm) : Decidable (motI it) := by unfold motI; infer_instance
instance (it : Itm) : Decidable (smI it) := by unfold smI; infer_instance
instance (it : Itm) : Decidable (syI it) := by unfold syI; infer_instance
def Qbz (it : Itm) : Pt := ⟨(it.fr.x + it.to.x) * 8, (it.fr.y + it.to.y) * 8, (it.fr.z + it.to.z) * 8⟩
theorem center_bd {it : Itm} (h1 : bd 1048576 it.fr) (h2 : bd 1048576 it.to) : bd B24 (Qbz it) := by
 unfold bd B24 Qbz at *
 simp only
 omega
def nextSm : List Itm -> Nat -> Int
 | [], _ => -1
 | it :: l, k => if it.kind = 10 then nextSm l (k + 1) else if smI it then k else -1
def Qfs (items : List Itm) (i : Nat) : Int := if smI (itA items i) /\ (itA items i).blend ≠ 0 then nextSm (items.drop (i + 1)) (i + 1) else -1
theorem nextSm_spec : ∀ (l : List Itm) (k : Nat), nextSm l k = -1 \/ ∃ j : Nat, nextSm l k = ((k + j : Nat) : Int) /\ ∃ h : j < l.length, smI l[j] /\ ∀ i (hi : i < l.length), i < j -> l[i].kind = 10
 | [], _ => .inl rfl
 | it :: l, k => by
  unfold nextSm
  split
  ·rename_i h10
   rcases nextSm_spec l (k + 1) with h | ⟨j, h1, h2, h3, h4⟩
   ·exact .inl h
   ·refine .inr ⟨j + 1, by rw [h1]; omega, by simp; omega, by simpa using h3, ?_⟩
    intro i hi hij
    cases i with
    | zero => simpa using h10
    | succ i => simpa using h4 i (by simpa using hi) (by omega)
  ·split
   ·rename_i hs
    exact .inr ⟨0, by simp, by simp, by simpa using hs, fun i _ hi => by omega⟩
   ·exact .inl rfl
theorem softK_spec (items : List Itm) (i : Nat) : Qfs items i = -1 \/ (smI (itA items i) /\ (itA items i).blend ≠ 0 /\ ∃ k : Nat, Qfs items i = k /\ i < k /\ k < items.length /\ smI (itA items k) /\ ∀ j, i < j -> j < k -> (itA items j).kind = 10) := by
 unfold Qfs
 split
 ·rename_i h
  rcases nextSm_spec (items.drop (i + 1)) (i + 1) with h1 | ⟨j, h1, h2, h3, h4⟩
  ·exact .inl h1
  ·have h5 : i + 1 + j < items.length := by rw [List.length_drop] at h2; omega
   refine .inr ⟨h.1, h.2, i + 1 + j, h1, by omega, h5, ?_, ?_⟩
   ·rw [itA_get h5]
    rw [List.getElem_drop] at h3
    exact h3
   ·intro m hm1 hm2
    have := h4 (m - (i + 1)) (by omega) (by omega)
    rw [List.getElem_drop] at this
    rw [itA_get (by omega)]
    have e : i + 1 + (m - (i + 1)) = m := by omega
    simp only [e] at this
    exact this
 ·exact .inl rfl
def otherK (it : Itm) : Int := if it.kind = 10 then 5 else if it.kind = 13 then 4 else 3
def nextSy : List Itm -> Int
 | [] => 2
 | it :: l => if motI it then (if syI it then 1 else 2) else nextSy l
def kindK (items : List Itm) (i : Nat) : Int := if (itA items i).kind = 4 then 6 else if (itA items i).blend = 0 then 1 else if syI (itA items i) then 1 else nextSy (items.drop (i + 1))
noncomputable def Qnx (items : List Itm) (i k : Nat) : List Pt := cornerP (Qbz (itA items i)) (fine (itA items i).to) (Qbz (itA items k)) ((itA items i).blend * 16)
def drawn (it : Itm) : Prop := Qkp it /\ 0 <= it.blend /\ it.blend <= 1000
theorem joined_bd {items : List Itm} {i k : Nat} (h1 : drawn (itA items i)) (h2 : drawn (itA items k)) : (∀ p ∈ Qnx items i k, bd B24 p) /\ 1 <= (Qnx items i k).length /\ (Qnx items i k).length <= 65 :=
 corner_bd (center_bd h1.1.2.1 h1.1.2.2.1) (fine_bd h1.1.2.2.1) (center_bd h2.1.2.1 h2.1.2.2.1)
noncomputable def headP (items : List Itm) (i : Nat) (frm : Int) : List Pt := if 0 <= frm then (Qnx items frm.toNat i).drop ((Qnx items frm.toNat i).length / 2) else (Qgo (itA items i)).take 1
noncomputable def tailP (items : List Itm) (i : Nat) : List Pt := if 0 <= Qfs items i then (Qnx items i (Qfs items i).toNat).take ((Qnx items i (Qfs items i).toNat).length / 2 + 1) else (Qgo (itA items i)).drop 1
noncomputable def Qei (items : List Itm) (i : Nat) (frm : Int) : List Pt := if smI (itA items i) then headP items i frm ++ [Qbz (itA items i)] ++ tailP items i else Qgo (itA items i)
def frmOK (items : List Itm) (i : Nat) (frm : Int) : Prop := frm = -1 \/ ∃ f : Nat, frm = f /\ f < items.length /\ drawn (itA items f)
theorem head_bd {items : List Itm} {i : Nat} {frm : Int} (hd : drawn (itA items i)) (hf : frmOK items i frm) : (∀ p ∈ headP items i frm, bd 67108864 p) /\ (headP items i frm).length <= 65 := by
 unfold headP
 rcases hf with rfl | ⟨f, rfl, hf1, hf2⟩
 ·rw [if_neg (by omega)]
  exact ⟨fun p hp => chordsP_bd hd.1 p (List.mem_of_mem_take hp), by rw [List.length_take]; omega⟩
 ·rw [if_pos (by omega)]
  obtain ⟨h1, h2, h3⟩ := joined_bd (items := items) (i := (f : Int).toNat) (k := i) (by simpa using hf2) hd
  exact ⟨fun p hp => Qbv (h1 p (List.mem_of_mem_drop hp)) (by decide), by rw [List.length_drop]; omega⟩
theorem soft_get {items : List Itm} {i : Nat} (hall : ∀ k < items.length, motI (itA items k) -> drawn (itA items k)) (hs : 0 <= Qfs items i) : ∃ k : Nat, Qfs items i = k /\ k < items.length /\ drawn (itA items k) := by
 rcases softK_spec items i with h | ⟨-, -, k, h1, -, h2, h3, -⟩
 ·omega
 ·exact ⟨k, h1, h2, hall k h2 ⟨by have := h3.1; omega, by have := h3.1; omega⟩⟩
theorem tail_bd {items : List Itm} {i : Nat} (hd : drawn (itA items i)) (h2 : (itA items i).kind ≠ 3) (hall : ∀ k < items.length, motI (itA items k) -> drawn (itA items k)) : (∀ p ∈ tailP items i, bd 67108864 p) /\ (tailP items i).length <= 66 := by
 unfold tailP
 by_cases h : 0 <= Qfs items i
 ·rw [if_pos h]
  obtain ⟨k, hk, hk1, hk2⟩ := soft_get hall h
  obtain ⟨h1, h2, h3⟩ := joined_bd (items := items) (i := i) (k := (Qfs items i).toNat) hd (by rw [hk]; simpa using hk2)
  exact ⟨fun p hp => Qbv (h1 p (List.mem_of_mem_take hp)) (by decide), by rw [List.length_take]; omega⟩
 ·rw [if_neg h]
  refine ⟨fun p hp => chordsP_bd hd.1 p (List.mem_of_mem_drop hp), ?_⟩
  unfold Qgo
  rw [if_neg h2]
  simp
theorem points_bd {items : List Itm} {i : Nat} {frm : Int} (hd : drawn (itA items i)) (hf : frmOK items i frm) (hall : ∀ k < items.length, motI (itA items k) -> drawn (itA items k)) :
  (∀ p ∈ Qei items i frm, bd 67108864 p) /\ (Qei items i frm).length <= 65537 := by
 unfold Qei
 by_cases hs : smI (itA items i)
 ·rw [if_pos hs]
  obtain ⟨h1, h2⟩ := head_bd hd hf
  obtain ⟨h3, h4⟩ := tail_bd hd (by have := hs.1; omega) hall
  refine ⟨fun p hp => ?_, by rw [List.length_append, List.length_append]; simp; omega⟩
  rcases List.mem_append.1 hp with hp | hp
  ·rcases List.mem_append.1 hp with hp | hp
   ·exact h1 p hp
   ·simp at hp; subst hp; exact Qbv (center_bd hd.1.2.1 hd.1.2.2.1) (by decide)
  ·exact h3 p hp
 ·rw [if_neg hs]
  exact ⟨chordsP_bd hd.1, (chordsP_len _).2⟩
theorem map_drop1 (l : List Pt) : List.drop (Int.toNat 1) (l.map ptR) = (l.drop 1).map ptR := by rw [show Int.toNat 1 = 1 from rfl, List.map_drop]
theorem map_take1 (l : List Pt) : List.take (Int.toNat 1) (l.map ptR) = (l.take 1).map ptR := by rw [show Int.toNat 1 = 1 from rfl, List.map_take]
end Go.Bm
/- the reference's path of a list of items -/
set_option maxRecDepth 100000
namespace Go.Bm
open Classical

def Qel (it : Itm) : Prop := it.kind < 1 \/ it.kind > 14 \/ (motI it /\ (¬ Qkp it \/ (it.kind ≠ 1 /\ (it.feed < 1 \/ it.feed > 60000000)) \/ it.blend < 0 \/ it.blend > 1000)) \/ (¬ motI it /\ it.kind = 8 /\ (it.n < 3 \/ it.n > 5 \/ it.speed < 0 \/ it.speed > 30000))
noncomputable def chkF (items : List Itm) : Nat -> Nat -> Int -> Int
 | 0, _, _ => 0
 | k + 1, i, last => if Qel (itA items i) then 1 else if motI (itA items i) then (if 0 <= last /\ (itA items last.toNat).to ≠ (itA items i).fr then 13 else chkF items k (i + 1) i) else chkF items k (i + 1) last
noncomputable def Qkz (items : List Itm) : Int := if items.length > 20000 then 10 else chkF items items.length 0 (-1)
theorem chk_right {items : List Itm} : ∀ (k i : Nat) (last : Int), i + k = items.length -> chkF items k i last = 0 -> ∀ j, i <= j -> j < items.length -> ¬ Qel (itA items j)
 | 0, i, last, hi, _, j, h1, h2 => by omega
 | k + 1, i, last, hi, h, j, h1, h2 => by
  unfold chkF at h
  split at h
  ·omega
  ·rename_i c
   by_cases hij : j = i
   ·subst hij; exact c
   ·split at h
    ·split at h
     ·omega
     ·exact chk_right k (i + 1) _ (by omega) h j (by omega) h2
    ·exact chk_right k (i + 1) _ (by omega) h j (by omega) h2
theorem check_right {items : List Itm} (h : Qkz items = 0) : items.length <= 20000 /\ ∀ j, j < items.length -> ¬ Qel (itA items j) := by
 unfold Qkz at h
 split at h
 ·omega
 ·exact ⟨by omega, fun j hj => chk_right _ 0 _ (by omega) h j (by omega) hj⟩
theorem right_mot {it : Itm} (h : ¬ Qel it) (hm : motI it) : drawn it /\ (it.kind = 1 \/ 1 <= it.feed /\ it.feed <= 60000000) := by
 unfold Qel at h
 have hv : Qkp it := by
  by_cases c : Qkp it
  ·exact c
  ·exact absurd (.inr (.inr (.inl ⟨hm, .inl c⟩))) h
 have h2 : ¬ ((it.kind ≠ 1 /\ (it.feed < 1 \/ it.feed > 60000000)) \/ it.blend < 0 \/ it.blend > 1000) := fun c => h (.inr (.inr (.inl ⟨hm, .inr c⟩)))
 exact ⟨⟨hv, by omega, by omega⟩, by omega⟩
theorem right_sp {it : Itm} (h : ¬ Qel it) (h8 : it.kind = 8) : 0 <= it.speed /\ it.speed <= 30000 := by
 unfold Qel at h
 have hm : ¬ motI it := fun c => by have := c.2; omega
 have h2 : ¬ (it.n < 3 \/ it.n > 5 \/ it.speed < 0 \/ it.speed > 30000) := fun c => h (.inr (.inr (.inr ⟨hm, h8, c⟩)))
 omega

noncomputable def Qeu (item feed lead : Int) (s : List Sgm × Int × Pt) (q : Pt) : List Sgm × Int × Pt := if q = s.2.2 then s else (s.1 ++ [⟨q, lenP s.2.2 q, item, feed, lead⟩], s.2.1 + lenP s.2.2 q, q)
theorem fold_bd {item feed lead : Int} : ∀ (pts : List Pt) (s : List Sgm × Int × Pt), (∀ p ∈ pts, bd 67108864 p) -> bd 67108864 s.2.2 -> 0 <= s.2.1 ->
  (pts.foldl (Qeu item feed lead) s).1.length <= s.1.length + pts.length /\ s.2.1 <= (pts.foldl (Qeu item feed lead) s).2.1 /\ (pts.foldl (Qeu item feed lead) s).2.1 <= s.2.1 + pts.length * 268435456 /\ bd 67108864 (pts.foldl (Qeu item feed lead) s).2.2
 | [], s, _, h2, h3 => ⟨by simp, by simp, by simp, h2⟩
 | q :: pts, s, h1, h2, h3 => by
  rw [List.foldl_cons]
  have hq := h1 q (by simp)
  have hl := len_bd h2 hq
  have hs : Qeu item feed lead s q = s \/ Qeu item feed lead s q = (s.1 ++ [⟨q, lenP s.2.2 q, item, feed, lead⟩], s.2.1 + lenP s.2.2 q, q) := by unfold Qeu; split <;> simp
  rcases hs with hs | hs
  ·rw [hs]
   obtain ⟨a, b, c, d⟩ := fold_bd pts s (fun p hp => h1 p (by simp [hp])) h2 h3 (item := item) (feed := feed) (lead := lead)
   exact ⟨by simp; omega, b, by simp; omega, d⟩
  ·rw [hs]
   obtain ⟨a, b, c, d⟩ := fold_bd pts (s.1 ++ [⟨q, lenP s.2.2 q, item, feed, lead⟩], s.2.1 + lenP s.2.2 q, q) (fun p hp => h1 p (by simp [hp])) hq (by simp only; omega) (item := item) (feed := feed) (lead := lead)
   simp only [List.length_append, List.length_cons, List.length_nil] at a b c
   exact ⟨by simp; omega, by omega, by simp; omega, d⟩

structure BSt where
 segs : List Sgm
 marks : List Mrk
 (len speed frm : Int)
 begun : Bool
 (start at_ : Pt)
def leadI (it : Itm) : Int := if syI it then mn (it.feed * 16) 16777216 else 0
def spdI (it : Itm) (s : Int) : Int := if it.kind = 8 /\ (it.n = 3 \/ it.n = 4) then it.speed else s
noncomputable def motS (items : List Itm) (i : Nat) (s : BSt) : List Sgm × Int × Pt :=
 (Qei items i s.frm).foldl (Qeu i (rate (itA items i) s.speed) (leadI (itA items i))) (s.segs, s.len, if s.begun = true then s.at_ else fine (itA items i).fr)
noncomputable def bStep (items : List Itm) (i : Nat) (s : BSt) : BSt :=
 if motI (itA items i) then
  ⟨(motS items i s).1, s.marks ++ [⟨(motS items i s).2.1, kindK items i, i⟩], (motS items i s).2.1, s.speed, if 0 <= Qfs items i then i else -1, true, if s.begun = true then s.start else fine (itA items i).fr, (motS items i s).2.2⟩
 else ⟨s.segs, s.marks ++ [⟨s.len, otherK (itA items i), i⟩], s.len, spdI (itA items i) s.speed, s.frm, s.begun, s.start, s.at_⟩
noncomputable def Qal (items : List Itm) : Nat -> BSt
 | 0 => ⟨[], [], 0, 0, -1, false, ⟨0, 0, 0⟩, ⟨0, 0, 0⟩⟩
 | i + 1 => bStep items i (Qal items i)
structure BOK (items : List Itm) (i : Nat) (s : BSt) : Prop where
 segs : s.segs.length <= i * 65537
 marks : s.marks.length = i
 len : 0 <= s.len /\ s.len <= i * 65537 * 268435456
 speed : 0 <= s.speed /\ s.speed <= 30000
 frm : frmOK items i s.frm
 at_ : s.begun = true -> bd 67108864 s.at_
theorem bStep_ok {items : List Itm} {i : Nat} {s : BSt} (hi : i < items.length) (hright : ∀ j < items.length, ¬ Qel (itA items j)) (h : BOK items i s) : BOK items (i + 1) (bStep items i s) := by
 have hall : ∀ k < items.length, motI (itA items k) -> drawn (itA items k) := fun k hk hm => (right_mot (hright k hk) hm).1
 unfold bStep
 by_cases hm : motI (itA items i)
 ·rw [if_pos hm]
  have hd := hall i hi hm
  obtain ⟨p1, p2⟩ := points_bd hd h.frm hall
  have ha : bd 67108864 (if s.begun = true then s.at_ else fine (itA items i).fr) := by
   by_cases hb : s.begun = true
   ·rw [if_pos hb]; exact h.at_ hb
   ·rw [if_neg hb]; exact Qbv (fine_bd hd.1.2.1) (by decide)
  obtain ⟨a1, a2, a3, a4⟩ := fold_bd (item := i) (feed := rate (itA items i) s.speed) (lead := leadI (itA items i)) (Qei items i s.frm) (s.segs, s.len, if s.begun = true then s.at_ else fine (itA items i).fr) p1 ha h.len.1
  have h1 := h.segs
  have h2 := h.len
  have e1 : (i + 1) * 65537 = i * 65537 + 65537 := by rw [Nat.succ_mul]
  refine ⟨?_, ?_, ?_, h.speed, ?_, fun _ => a4⟩
  ·simp only at a1
   show (motS items i s).1.length <= _
   unfold motS
   omega
  ·show (s.marks ++ [_]).length = _
   rw [List.length_append, h.marks]; rfl
  ·show 0 <= (motS items i s).2.1 /\ (motS items i s).2.1 <= _
   unfold motS
   simp only at a2 a3
   have e2 : (((i + 1 : Nat) : Int)) * 65537 * 268435456 = (i : Int) * 65537 * 268435456 + 65537 * 268435456 := by
    rw [Int.natCast_add, Int.natCast_one, Int.add_mul, Int.add_mul]; rfl
   constructor
   ·omega
   ·rw [e2]; omega
  ·show frmOK items (i + 1) (if 0 <= Qfs items i then (i : Int) else -1)
   split
   ·exact .inr ⟨i, rfl, hi, hd⟩
   ·exact .inl rfl
 ·rw [if_neg hm]
  have h2 := h.len
  have h3 := h.segs
  have e1 : (i + 1) * 65537 = i * 65537 + 65537 := by rw [Nat.succ_mul]
  refine ⟨by show s.segs.length <= _; rw [e1]; exact Nat.le_trans h3 (Nat.le_add_right _ _), ?_, ?_, ?_, h.frm, h.at_⟩
  ·show (s.marks ++ [_]).length = _
   rw [List.length_append, h.marks]; rfl
  ·have e2 : (((i + 1 : Nat) : Int)) * 65537 * 268435456 = (i : Int) * 65537 * 268435456 + 65537 * 268435456 := by
    rw [Int.natCast_add, Int.natCast_one, Int.add_mul, Int.add_mul]; rfl
   show 0 <= s.len /\ s.len <= _
   rw [e2]; omega
  ·show 0 <= spdI (itA items i) s.speed /\ spdI (itA items i) s.speed <= 30000
   unfold spdI
   split
   ·rename_i h8; exact right_sp (hright i hi) h8.1
   ·exact h.speed
theorem init_ok (items : List Itm) : BOK items 0 ⟨[], [], 0, 0, -1, false, ⟨0, 0, 0⟩, ⟨0, 0, 0⟩⟩ := by
 refine ⟨Nat.zero_le _, List.length_nil, ⟨Int.le_refl _, ?_⟩, ⟨Int.le_refl _, ?_⟩, .inl rfl, fun h => by cases h⟩
 ·show (0 : Int) <= ((0 : Nat) : Int) * 65537 * 268435456
  rw [show ((0 : Nat) : Int) = 0 from rfl, Int.zero_mul, Int.zero_mul]
  exact Int.le_refl _
 ·show (0 : Int) <= 30000
  omega
theorem buildN_ok {items : List Itm} (hright : ∀ j < items.length, ¬ Qel (itA items j)) : ∀ i, i <= items.length -> BOK items i (Qal items i)
 | 0, _ => by rw [Qal]; exact init_ok items
 | i + 1, hi => by rw [Qal]; exact bStep_ok (by omega) hright (buildN_ok hright i (by omega))
end Go.Bm
/- the reference's path of a list of items: the model gives it -/
set_option maxRecDepth 100000
namespace Go.Bm
open Classical

end Go.Bm
/- the reference's path of a list of items, for up to 15 items -/
set_option maxRecDepth 100000
namespace Go.Bm
open Classical

noncomputable def Qdf (items : List Itm) : Pth := ⟨(Qal items items.length).start, (Qal items items.length).segs, (Qal items items.length).marks⟩
end Go.Bm
