/- the items that the laws' maker of items gives: arcs, motions, lists of motions -/
import Derived.Test.YtdllaekpkcanbaaPrH
set_option linter.unusedVariables false
set_option linter.unusedSimpArgs false
set_option maxRecDepth 100000
namespace Go.Bm

/-- the components of a point in a plane -/
def plU (pl : Int) (p : Pt) : Int := if pl = 17 then p.x else if pl = 18 then p.z else p.y
def plW (pl : Int) (p : Pt) : Int := if pl = 17 then p.y else if pl = 18 then p.x else p.z
def plH (pl : Int) (p : Pt) : Int := if pl = 17 then p.z else if pl = 18 then p.y else p.x
def spP (pl u w h : Int) : Pt := if pl = 17 then ⟨u, w, h⟩ else if pl = 18 then ⟨w, h, u⟩ else ⟨h, u, w⟩
def isPl (pl : Int) : Prop := pl = 17 ∨ pl = 18 ∨ pl = 19
theorem s_Plane {p : Pt} {pl : Int} (h : isPl pl) : m_cncref23_Plane [I p.x, I p.y, I p.z, I pl] = some [I (plU pl p), I (plW pl p), I (plH pl p)] := by
  unfold m_cncref23_Plane
  rw [mf_cncref23_Plane_eq]
  rcases h with rfl | rfl | rfl <;> rfl
theorem s_Space {u w h pl : Int} (hp : isPl pl) : m_cncref23_Space [I u, I w, I h, I pl] = some (ptR (spP pl u w h)) := by
  unfold m_cncref23_Space
  rw [mf_cncref23_Space_eq]
  rcases hp with rfl | rfl | rfl <;> rfl
theorem pl_sp {pl u w h : Int} (hp : isPl pl) : plU pl (spP pl u w h) = u ∧ plW pl (spP pl u w h) = w ∧ plH pl (spP pl u w h) = h := by
  rcases hp with rfl | rfl | rfl <;> exact ⟨rfl, rfl, rfl⟩
theorem sp_pl {pl : Int} (hp : isPl pl) (p : Pt) : spP pl (plU pl p) (plW pl p) (plH pl p) = p := by
  rcases hp with rfl | rfl | rfl <;> rfl

/-- an arc as the maker makes it -/
structure ArcMade (size : Int) (it : Itm) : Prop where
  kind : it.kind = 3
  plane : isPl it.plane
  dir : it.dir = 1 ∨ it.dir = -1
  ends : ∃ r k t g h : Int, 8 ≤ r ∧ r < 8 + size ∧ 0 ≤ k ∧ k ≤ 3 ∧ 0 ≤ t ∧ t ≤ 3 ∧ 0 ≤ g ∧ g ≤ 4 ∧ (h = 0 ∨ h = 7 ∨ h = -12) ∧ (t = 0 → g = 0) ∧ it.full = decide (t = 0) ∧
    it.ce = spP it.plane (plU it.plane it.fr - rotU r k) (plW it.plane it.fr - rotW r k) (plH it.plane it.fr) ∧
    it.to = spP it.plane (plU it.plane it.fr - rotU r k + rotU (r + g) (k + t)) (plW it.plane it.fr - rotW r k + rotW (r + g) (k + t)) (plH it.plane it.fr + h)

theorem rot_bd {r k : Int} (hr : 0 ≤ r) : (-r ≤ rotU r k ∧ rotU r k ≤ r) ∧ (-r ≤ rotW r k ∧ rotW r k ≤ r) := by
  unfold rotU rotW
  constructor <;> constructor <;> split <;> (try split) <;> omega
theorem rot_div {r : Int} (hr : 1 ≤ r) (k : Int) : ((rotU r k).tdiv r = rotU 1 k) ∧ ((rotW r k).tdiv r = rotW 1 k) := by
  have h1 : r.tdiv r = 1 := Int.tdiv_self (by omega)
  have h2 : (-r).tdiv r = -1 := by rw [Int.neg_tdiv, h1]
  unfold rotU rotW
  constructor <;> split <;> (try split) <;> simp [h1, h2]
theorem rot_far (r k e f : Int) : ∃ g, (g = e ∨ g = f) ∧ rotU r k + rotU 1 k * e = rotU (r + g) k ∧ rotW r k + rotW 1 k * f = rotW (r + g) k := by
  unfold rotU rotW
  by_cases h : k % 4 = 0 ∨ k % 4 = 2
  · refine ⟨e, .inl rfl, ?_, ?_⟩
    · rcases h with h | h <;> simp [h] <;> omega
    · rcases h with h | h <;> simp [h]
  · have hc : k % 4 = 1 ∨ k % 4 = 3 := by omega
    refine ⟨f, .inr rfl, ?_, ?_⟩
    · rcases hc with h | h <;> simp [h]
    · rcases hc with h | h <;> simp [h] <;> omega
theorem pl_bd {pl : Int} {p : Pt} {b : Nat} (h : bd b p) : (plU pl p).natAbs ≤ b ∧ (plW pl p).natAbs ≤ b ∧ (plH pl p).natAbs ≤ b := by
  obtain ⟨h1, h2, h3⟩ := h
  unfold plU plW plH
  refine ⟨?_, ?_, ?_⟩ <;> split <;> (try split) <;> assumption

/-- what a source's call gives -/
def NextOK (l : List (List AC)) (M : List AC → Option (List AC)) : Prop := ∀ (k : Nat) {n : Int}, 0 < n ∧ n ≤ 4611686018427387904 →
    ∃ (v : Int) (k' : Nat), M [I n, .view kInts l, I k] = some [I v, .view kInts l, I k'] ∧ 0 ≤ v ∧ v < n ∧ k ≤ k' ∧ (k < l.length → k' = k + 1) ∧ (l.length ≤ k → k' = k)
abbrev blank (it : Itm) : Prop := it.block = 0 ∧ it.side = 0 ∧ it.radius = 0 ∧ it.speed = 0 ∧ it.on = false
theorem plane_at {v : Int} (h : 0 ≤ v ∧ v < 3) : intOf (nth .dead (nth [] [[I 17], [I 18], [I 19]] v.toNat) 0) = 17 + v := by
  have hc : v = 0 ∨ v = 1 ∨ v = 2 := by omega
  rcases hc with rfl | rfl | rfl <;> rfl
theorem height_at {v : Int} (h : 0 ≤ v ∧ v < 4) : ∃ x, intOf (nth .dead (nth [] [[I 0], [I 0], [I 7], [I (-12)]] v.toNat) 0) = x ∧ (x = 0 ∨ x = 7 ∨ x = -12) := by
  have hc : v = 0 ∨ v = 1 ∨ v = 2 ∨ v = 3 := by omega
  rcases hc with rfl | rfl | rfl | rfl <;> exact ⟨_, rfl, by decide⟩

theorem a_arc {MS MT MP MN : List AC → Option (List AC)} {l : List (List AC)} (hN : NextOK l MN)
    (hP : ∀ {p : Pt} {pl : Int}, isPl pl → MP [I p.x, I p.y, I p.z, I pl] = some [I (plU pl p), I (plW pl p), I (plH pl p)])
    (hS : ∀ {u w h pl : Int}, isPl pl → MS [I u, I w, I h, I pl] = some (ptR (spP pl u w h)))
    (hT : ∀ {r k : Int}, (0 ≤ r ∧ r ≤ 1000000) → (0 ≤ k ∧ k ≤ 1000) → MT [I r, I k] = some [I (rotU r k), I (rotW r k)])
    {p : Pt} (hp : bd 100000000 p) {size : Int} (hs : 0 < size ∧ size ≤ 100000) (k : Nat) :
    ∃ (it : Itm) (k' : Nat), mf_cncmill_arc MS MT MP MN [I p.x, I p.y, I p.z, I size, .view kInts l, I k] = some (itmR it ++ [.view kInts l, I k']) ∧ k ≤ k' ∧ it.fr = p ∧ ArcMade size it ∧
      it.feed = 0 ∧ it.perRev = false ∧ it.blend = 0 ∧ it.n = 0 ∧ blank it := by
  obtain ⟨v1, k1, e1, a1, b1, c1, -, -⟩ := hN k (n := 3) (by omega)
  obtain ⟨v2, k2, e2, a2, b2, c2, -, -⟩ := hN k1 (n := 2) (by omega)
  obtain ⟨v3, k3, e3, a3, b3, c3, -, -⟩ := hN k2 (n := size) (by omega)
  obtain ⟨v4, k4, e4, a4, b4, c4, -, -⟩ := hN k3 (n := 4) (by omega)
  obtain ⟨v5, k5, e5, a5, b5, c5, -, -⟩ := hN k4 (n := 4) (by omega)
  rw [mf_cncmill_arc_eq]
  simp only [go_sem, e1, e2, e3, e4, e5]
  rw [if_pos (by simp; omega)]
  have hpl : isPl (17 + v1) := by unfold isPl; omega
  have w1 : IntKind.i64.wrap (8 + v3) = 8 + v3 := wrap_id (by omega)
  have w2 : IntKind.i64.wrap (v4 + v5) = v4 + v5 := wrap_id (by omega)
  simp only [plane_at ⟨a1, b1⟩, hP hpl, go_sem, w1, w2, hT (r := 8 + v3) (k := v4) (by omega) (by omega), hT (r := 8 + v3) (k := v4 + v5) (by omega) (by omega), hS hpl]
  obtain ⟨q1, q2, q3⟩ := pl_bd (pl := 17 + v1) hp
  obtain ⟨⟨r1, r2⟩, r3, r4⟩ := rot_bd (r := 8 + v3) (k := v4) (by omega)
  obtain ⟨⟨r5, r6⟩, r7, r8⟩ := rot_bd (r := 8 + v3) (k := v4 + v5) (by omega)
  obtain ⟨d1, d2⟩ := rot_div (r := 8 + v3) (by omega) (v4 + v5)
  obtain ⟨⟨r9, r10⟩, r11, r12⟩ := rot_bd (r := 1) (k := v4 + v5) (by omega)
  have w3 : IntKind.i64.wrap (plU (17 + v1) p - rotU (8 + v3) v4) = plU (17 + v1) p - rotU (8 + v3) v4 := wrap_id (by omega)
  have w4 : IntKind.i64.wrap (plW (17 + v1) p - rotW (8 + v3) v4) = plW (17 + v1) p - rotW (8 + v3) v4 := wrap_id (by omega)
  have w5 : IntKind.i64.wrap (1 - IntKind.i64.wrap (v2 * 2)) = 1 - v2 * 2 := by rw [wrap_id (x := v2 * 2) (by omega), wrap_id (by omega)]
  have w6 : IntKind.i64.wrap (plU (17 + v1) p - rotU (8 + v3) v4 + rotU (8 + v3) (v4 + v5)) = plU (17 + v1) p - rotU (8 + v3) v4 + rotU (8 + v3) (v4 + v5) := wrap_id (by omega)
  have w7 : IntKind.i64.wrap (plW (17 + v1) p - rotW (8 + v3) v4 + rotW (8 + v3) (v4 + v5)) = plW (17 + v1) p - rotW (8 + v3) v4 + rotW (8 + v3) (v4 + v5) := wrap_id (by omega)
  rw [w3, w4, w5, w6, w7]
  have hdir : 1 - v2 * 2 = 1 ∨ 1 - v2 * 2 = -1 := by omega
  -- the last steps of all three ways
  have fin : ∀ (g : Int) (u w : Int) (k8 : Nat), k5 ≤ k8 → 0 ≤ g → g ≤ 4 → (v5 = 0 → g = 0) → u = rotU (8 + v3 + g) (v4 + v5) → w = rotW (8 + v3 + g) (v4 + v5) → ∀ v9 : Int, 0 ≤ v9 ∧ v9 < 4 →
      ∃ it : Itm, [I 3, I 0, I p.x, I p.y, I p.z, I (spP (17 + v1) (plU (17 + v1) p - rotU (8 + v3) v4 + u) (plW (17 + v1) p - rotW (8 + v3) v4 + w) (plH (17 + v1) p + intOf (nth .dead (nth [] [[I 0], [I 0], [I 7], [I (-12)]] v9.toNat) 0))).x,
        I (spP (17 + v1) (plU (17 + v1) p - rotU (8 + v3) v4 + u) (plW (17 + v1) p - rotW (8 + v3) v4 + w) (plH (17 + v1) p + intOf (nth .dead (nth [] [[I 0], [I 0], [I 7], [I (-12)]] v9.toNat) 0))).y,
        I (spP (17 + v1) (plU (17 + v1) p - rotU (8 + v3) v4 + u) (plW (17 + v1) p - rotW (8 + v3) v4 + w) (plH (17 + v1) p + intOf (nth .dead (nth [] [[I 0], [I 0], [I 7], [I (-12)]] v9.toNat) 0))).z,
        I (17 + v1), I (spP (17 + v1) (plU (17 + v1) p - rotU (8 + v3) v4) (plW (17 + v1) p - rotW (8 + v3) v4) (plH (17 + v1) p)).x, I (spP (17 + v1) (plU (17 + v1) p - rotU (8 + v3) v4) (plW (17 + v1) p - rotW (8 + v3) v4) (plH (17 + v1) p)).y, I (spP (17 + v1) (plU (17 + v1) p - rotU (8 + v3) v4) (plW (17 + v1) p - rotW (8 + v3) v4) (plH (17 + v1) p)).z,
        I (1 - v2 * 2), B (decide (v5 = 0)), I 0, B false, I 0, I 0, I 0, I 0, I 0, B false, .view kInts l, I k8] = itmR it ++ [.view kInts l, I k8] ∧ it.fr = p ∧ ArcMade size it ∧ it.feed = 0 ∧ it.perRev = false ∧ it.blend = 0 ∧ it.n = 0 ∧ blank it := by
    intro g u w k8 hk8 hg0 hg4 hg5 hu hw v9 hv9
    obtain ⟨x, hx, hx3⟩ := height_at hv9
    rw [hx]
    refine ⟨⟨3, 0, p, _, 17 + v1, _, 1 - v2 * 2, decide (v5 = 0), 0, false, 0, 0, 0, 0, 0, false⟩, rfl, rfl, ⟨rfl, hpl, hdir, 8 + v3, v4, v5, g, x, ?_⟩, rfl, rfl, rfl, rfl, rfl, rfl, rfl, rfl, rfl⟩
    subst hu hw
    exact ⟨by omega, by omega, by omega, by omega, by omega, by omega, hg0, hg4, hx3, hg5, rfl, rfl, rfl⟩
  have hgh : ∀ v9 : Int, 0 ≤ v9 ∧ v9 < 4 → IntKind.i64.wrap (plH (17 + v1) p + intOf (nth .dead (nth [] [[I 0], [I 0], [I 7], [I (-12)]] v9.toNat) 0)) = plH (17 + v1) p + intOf (nth .dead (nth [] [[I 0], [I 0], [I 7], [I (-12)]] v9.toNat) 0) := by
    intro v9 hv9
    obtain ⟨x, hx, hx3⟩ := height_at hv9
    rw [hx]
    exact wrap_id (by omega)
  have hfull : (v5 == 0) = decide (v5 = 0) := rfl
  by_cases hv5 : v5 > 0
  · rw [if_pos hv5]
    obtain ⟨v6, k6, e6, a6, b6, c6, -, -⟩ := hN k5 (n := 3) (by omega)
    simp only [go_sem, e6]
    by_cases hv6 : v6 = 0
    · rw [if_pos hv6, if_neg (by omega)]
      obtain ⟨v7, k7, e7, a7, b7, c7, -, -⟩ := hN k6 (n := 5) (by omega)
      obtain ⟨v8, k8, e8, a8, b8, c8, -, -⟩ := hN k7 (n := 5) (by omega)
      obtain ⟨v9, k9, e9, a9, b9, c9, -, -⟩ := hN k8 (n := 4) (by omega)
      simp only [go_sem, e7, e8, e9]
      rw [if_neg (by omega), if_pos (by simp; omega), hgh v9 ⟨a9, b9⟩, d1, d2]
      obtain ⟨g, hg, hu, hw⟩ := rot_far (8 + v3) (v4 + v5) v7 v8
      have mu : -4 ≤ rotU 1 (v4 + v5) * v7 ∧ rotU 1 (v4 + v5) * v7 ≤ 4 := by
        have hc : rotU 1 (v4 + v5) = -1 ∨ rotU 1 (v4 + v5) = 0 ∨ rotU 1 (v4 + v5) = 1 := by omega
        rcases hc with h | h | h <;> rw [h] <;> omega
      have mw : -4 ≤ rotW 1 (v4 + v5) * v8 ∧ rotW 1 (v4 + v5) * v8 ≤ 4 := by
        have hc : rotW 1 (v4 + v5) = -1 ∨ rotW 1 (v4 + v5) = 0 ∨ rotW 1 (v4 + v5) = 1 := by omega
        rcases hc with h | h | h <;> rw [h] <;> omega
      rw [wrap_id (x := rotU 1 (v4 + v5)) (by omega), wrap_id (x := rotW 1 (v4 + v5)) (by omega), wrap_id (x := rotU 1 (v4 + v5) * v7) (by omega), wrap_id (x := rotW 1 (v4 + v5) * v8) (by omega),
        wrap_id (x := rotU (8 + v3) (v4 + v5) + _) (by omega), wrap_id (x := rotW (8 + v3) (v4 + v5) + _) (by omega), hu, hw]
      obtain ⟨⟨s1, s2⟩, s3, s4⟩ := rot_bd (r := 8 + v3 + g) (k := v4 + v5) (by omega)
      rw [wrap_id (x := _ + rotU (8 + v3 + g) (v4 + v5)) (by omega), wrap_id (x := _ + rotW (8 + v3 + g) (v4 + v5)) (by omega)]
      obtain ⟨it, h1, h2⟩ := fin g _ _ k9 (by omega) (by omega) (by omega) (by omega) rfl rfl v9 ⟨a9, b9⟩
      refine ⟨it, k9, ?_, by omega, h2⟩
      exact congrArg some h1
    · rw [if_neg hv6]
      obtain ⟨v9, k9, e9, a9, b9, c9, -, -⟩ := hN k6 (n := 4) (by omega)
      simp only [go_sem, e9]
      rw [if_pos (by simp; omega), hgh v9 ⟨a9, b9⟩]
      obtain ⟨it, h1, h2⟩ := fin 0 _ _ k9 (by omega) (by omega) (by omega) (by omega) (by rw [Int.add_zero]) (by rw [Int.add_zero]) v9 ⟨a9, b9⟩
      refine ⟨it, k9, ?_, by omega, h2⟩
      exact congrArg some h1
  · rw [if_neg hv5]
    obtain ⟨v9, k9, e9, a9, b9, c9, -, -⟩ := hN k5 (n := 4) (by omega)
    simp only [go_sem, e9]
    rw [if_pos (by simp; omega), hgh v9 ⟨a9, b9⟩]
    obtain ⟨it, h1, h2⟩ := fin 0 _ _ k9 (by omega) (by omega) (by omega) (by omega) (by rw [Int.add_zero]) (by rw [Int.add_zero]) v9 ⟨a9, b9⟩
    refine ⟨it, k9, ?_, by omega, h2⟩
    exact congrArg some h1
theorem nextOK {l : List (List AC)} (hl : Src l) : NextOK l m_cncmill_Source_Next := fun k _ hn => s_Next hl k hn
theorem s_arc {l : List (List AC)} (hl : Src l) {p : Pt} (hp : bd 100000000 p) {size : Int} (hs : 0 < size ∧ size ≤ 100000) (k : Nat) :
    ∃ (it : Itm) (k' : Nat), m_cncmill_arc [I p.x, I p.y, I p.z, I size, .view kInts l, I k] = some (itmR it ++ [.view kInts l, I k']) ∧ k ≤ k' ∧ it.fr = p ∧ ArcMade size it ∧
      it.feed = 0 ∧ it.perRev = false ∧ it.blend = 0 ∧ it.n = 0 ∧ blank it :=
  a_arc (nextOK hl) s_Plane s_Space s_turned hp hs k
end Go.Bm
