/- motions and lists of motions, as the maker makes them -/
import Derived.Test.YtdllaekpkcanbaaPrI
set_option linter.unusedVariables false
set_option linter.unusedSimpArgs false
set_option maxRecDepth 100000
namespace Go.Bm

structure Made (it : Itm) : Prop where
  kind : 1 ≤ it.kind ∧ it.kind ≤ 6
  line : it.kind ≠ 3 → (it.to.x - it.fr.x).natAbs ≤ 16 ∧ (it.to.y - it.fr.y).natAbs ≤ 16 ∧ (it.to.z - it.fr.z).natAbs ≤ 16
  arc : it.kind = 3 → ArcMade 8 it
  feed : it.kind ≠ 1 → 1 ≤ it.feed ∧ it.feed ≤ 60000000
  blend : 0 ≤ it.blend ∧ it.blend ≤ 9
  sync : it.kind = 5 ∨ it.kind = 6 → it.blend = 0 ∧ it.feed ≤ 60
  free : it.kind ≤ 4 → it.perRev = false
  full : it.kind ≠ 3 → it.full = false
theorem feed_at {v : Int} (h : 0 ≤ v ∧ v < 5) : ∃ x, intOf (nth .dead (nth [] [[I 300000], [I 1], [I 60000], [I 2000000], [I 60000000]] v.toNat) 0) = x ∧ 1 ≤ x ∧ x ≤ 60000000 := by
  have hc : v = 0 ∨ v = 1 ∨ v = 2 ∨ v = 3 ∨ v = 4 := by omega
  rcases hc with rfl | rfl | rfl | rfl | rfl <;> exact ⟨_, rfl, by decide⟩
theorem blend_at {v : Int} (h : 0 ≤ v ∧ v < 5) : ∃ x, intOf (nth .dead (nth [] [[I 0], [I 1], [I 2], [I 4], [I 9]] v.toNat) 0) = x ∧ 0 ≤ x ∧ x ≤ 9 := by
  have hc : v = 0 ∨ v = 1 ∨ v = 2 ∨ v = 3 ∨ v = 4 := by omega
  rcases hc with rfl | rfl | rfl | rfl | rfl <;> exact ⟨_, rfl, by decide⟩
theorem arc_upd {size : Int} {it : Itm} (h : ArcMade size it) (f b : Int) (pr : Bool) (n : Int) : ArcMade size { it with feed := f, blend := b, perRev := pr, n := n } := ⟨h.kind, h.plane, h.dir, h.ends⟩

theorem a_motion {MA MN : List AC → Option (List AC)} {l : List (List AC)} (hN : NextOK l MN)
    (hA : ∀ {p : Pt}, bd 100000000 p → ∀ k : Nat, ∃ (it : Itm) (k' : Nat), MA [I p.x, I p.y, I p.z, I 8, .view kInts l, I k] = some (itmR it ++ [.view kInts l, I k']) ∧ k ≤ k' ∧ it.fr = p ∧ ArcMade 8 it ∧ it.feed = 0 ∧ it.perRev = false ∧ it.blend = 0 ∧ it.n = 0 ∧ blank it)
    {p : Pt} (hp : bd 100000000 p) {kind : Int} (hk : 1 ≤ kind ∧ kind ≤ 6) (k : Nat) :
    ∃ (it : Itm) (k' : Nat), mf_cncmill_motion MN MA [I p.x, I p.y, I p.z, I kind, .view kInts l, I k] = some (itmR it ++ [.view kInts l, I k']) ∧ k ≤ k' ∧ it.fr = p ∧ it.kind = kind ∧ Made it ∧ blank it := by
  rw [mf_cncmill_motion_eq]
  obtain ⟨hp1, hp2, hp3⟩ := hp
  by_cases h3 : kind = 3
  · subst h3
    obtain ⟨it, k1, e1, c1, g1, g2, g3, g4, g5, g6, g7, g8, g9, g10, g11⟩ := hA ⟨hp1, hp2, hp3⟩ k
    obtain ⟨v2, k2, e2, a2, b2, c2, -, -⟩ := hN k1 (n := 5) (by omega)
    obtain ⟨v3, k3, e3, a3, b3, c3, -, -⟩ := hN k2 (n := 5) (by omega)
    simp only [go_sem, e1, itmR, List.cons_append, List.nil_append, e2, e3]
    rw [if_neg (by omega), if_pos (by simp; omega), if_pos (by simp; omega), if_neg (by omega), if_neg (by omega), if_neg (by omega)]
    obtain ⟨f, hf, hf1, hf2⟩ := feed_at ⟨a2, b2⟩
    obtain ⟨b, hb, hb1, hb2⟩ := blend_at ⟨a3, b3⟩
    rw [hf, hb]
    have hka := g2.kind
    refine ⟨{ it with feed := f, blend := b, perRev := it.perRev, n := it.n }, k3, rfl, by omega, g1, hka, ⟨?_, ?_, ?_, ?_, ?_, ?_, ?_, ?_⟩, g7, g8, g9, g10, g11⟩
    · show 1 ≤ it.kind ∧ it.kind ≤ 6; omega
    · exact fun h => absurd hka h
    · exact fun _ => arc_upd g2 f b _ _
    · exact fun _ => ⟨hf1, hf2⟩
    · exact ⟨hb1, hb2⟩
    · intro h; change it.kind = 5 ∨ it.kind = 6 at h; omega
    · exact fun _ => g4
    · exact fun h => absurd hka h
  · simp only [go_sem]
    rw [if_neg h3]
    obtain ⟨v1, k1, e1, a1, b1, c1, -, -⟩ := hN k (n := 25) (by omega)
    obtain ⟨v2, k2, e2, a2, b2, c2, -, -⟩ := hN k1 (n := 25) (by omega)
    obtain ⟨v3, k3, e3, a3, b3, c3, -, -⟩ := hN k2 (n := 3) (by omega)
    obtain ⟨v4, k4, e4, a4, b4, c4, -, -⟩ := hN k3 (n := 9) (by omega)
    obtain ⟨v5, k5, e5, a5, b5, c5, -, -⟩ := hN k4 (n := 2) (by omega)
    simp only [go_sem, e1, e2, e3, e4, e5]
    have hm : 0 ≤ v3 * v4 ∧ v3 * v4 ≤ 16 := by
      have hc : v3 = 0 ∨ v3 = 1 ∨ v3 = 2 := by omega
      rcases hc with rfl | rfl | rfl <;> omega
    generalize v3 * v4 = m at hm
    have w1 : IntKind.i64.wrap (IntKind.i64.wrap (p.x + v1) - 12) = p.x + v1 - 12 := by rw [wrap_id (x := p.x + v1) (by omega), wrap_id (by omega)]
    have w2 : IntKind.i64.wrap (IntKind.i64.wrap (p.y + v2) - 12) = p.y + v2 - 12 := by rw [wrap_id (x := p.y + v2) (by omega), wrap_id (by omega)]
    have w3 : IntKind.i64.wrap (IntKind.i64.wrap (p.z + IntKind.i64.wrap m) - IntKind.i64.wrap (8 * v5)) = p.z + m - 8 * v5 := by
      rw [wrap_id (x := m) (by omega), wrap_id (x := p.z + m) (by omega), wrap_id (x := 8 * v5) (by omega), wrap_id (by omega)]
    rw [w1, w2, w3]
    -- the item, whatever its kind
    have mk : ∀ (f b n : Int) (pr : Bool), (kind ≠ 1 → 1 ≤ f ∧ f ≤ 60000000) → (0 ≤ b ∧ b ≤ 9) → (kind = 5 ∨ kind = 6 → b = 0 ∧ f ≤ 60) → (kind ≤ 4 → pr = false) →
        ∃ it : Itm, itmR it = [I kind, I 0, I p.x, I p.y, I p.z, I (p.x + v1 - 12), I (p.y + v2 - 12), I (p.z + m - 8 * v5), I 0, I 0, I 0, I 0, I 0, B false, I f, B pr, I 0, I 0, I b, I n, I 0, B false] ∧ it.fr = p ∧ it.kind = kind ∧ Made it ∧ blank it := by
      intro f b n pr h1 h2 h4 h5
      refine ⟨⟨kind, 0, p, ⟨p.x + v1 - 12, p.y + v2 - 12, p.z + m - 8 * v5⟩, 0, ⟨0, 0, 0⟩, 0, false, f, pr, 0, 0, b, n, 0, false⟩, rfl, rfl, rfl, ⟨hk, fun _ => ?_, fun h => absurd h h3, h1, h2, h4, h5, fun _ => rfl⟩, rfl, rfl, rfl, rfl, rfl⟩
      show (p.x + v1 - 12 - p.x).natAbs ≤ 16 ∧ (p.y + v2 - 12 - p.y).natAbs ≤ 16 ∧ (p.z + m - 8 * v5 - p.z).natAbs ≤ 16
      omega
    have en : ∀ (f b n : Int) (pr : Bool) (k' : Nat), k ≤ k' → (kind ≠ 1 → 1 ≤ f ∧ f ≤ 60000000) → (0 ≤ b ∧ b ≤ 9) → (kind = 5 ∨ kind = 6 → b = 0 ∧ f ≤ 60) → (kind ≤ 4 → pr = false) →
        ∃ (it : Itm) (k'' : Nat), some [I kind, I 0, I p.x, I p.y, I p.z, I (p.x + v1 - 12), I (p.y + v2 - 12), I (p.z + m - 8 * v5), I 0, I 0, I 0, I 0, I 0, B false, I f, B pr, I 0, I 0, I b, I n, I 0, B false, .view kInts l, I k'] = some (itmR it ++ [.view kInts l, I k'']) ∧ k ≤ k'' ∧ it.fr = p ∧ it.kind = kind ∧ Made it ∧ blank it := by
      intro f b n pr k' h0 h1 h2 h4 h5
      obtain ⟨it, i1, i2⟩ := mk f b n pr h1 h2 h4 h5
      refine ⟨it, k', ?_, h0, i2⟩
      rw [i1]
      rfl
    by_cases h1 : kind = 1
    · rw [if_pos h1]
      exact en _ _ _ _ _ (by omega) (fun h => absurd h1 h) (by omega) (by omega) (fun _ => rfl)
    · rw [if_neg h1]
      obtain ⟨v6, k6, e6, a6, b6, c6, -, -⟩ := hN k5 (n := 5) (by omega)
      obtain ⟨v7, k7, e7, a7, b7, c7, -, -⟩ := hN k6 (n := 5) (by omega)
      obtain ⟨v8, k8, e8, a8, b8, c8, -, -⟩ := hN k7 (n := 60) (by omega)
      obtain ⟨v9, k9, e9, a9, b9, c9, -, -⟩ := hN k8 (n := 2) (by omega)
      simp only [go_sem, e6, e7, e8, e9]
      rw [if_pos (by simp; omega), if_pos (by simp; omega)]
      obtain ⟨f, hf, hf1, hf2⟩ := feed_at ⟨a6, b6⟩
      obtain ⟨b, hb, hb1, hb2⟩ := blend_at ⟨a7, b7⟩
      rw [hf, hb, wrap_id (x := 1 + v8) (by omega), wrap_id (x := 3 + v9) (by omega)]
      by_cases h5 : kind = 5
      · rw [if_pos h5, if_neg (by omega)]
        exact en _ _ _ _ _ (by omega) (by omega) (by omega) (by omega) (by omega)
      · rw [if_neg h5]
        by_cases h6 : kind = 6
        · rw [if_pos h6, if_pos h6]
          exact en _ _ _ _ _ (by omega) (by omega) (by omega) (by omega) (by omega)
        · rw [if_neg h6]
          by_cases h4 : kind = 4
          · rw [if_pos h4]
            exact en _ _ _ _ _ (by omega) (by omega) (by omega) (by omega) (fun _ => rfl)
          · rw [if_neg h4]
            exact en _ _ _ _ _ (by omega) (by omega) (by omega) (by omega) (fun _ => rfl)
theorem s_motion {l : List (List AC)} (hl : Src l) {p : Pt} (hp : bd 100000000 p) {kind : Int} (hk : 1 ≤ kind ∧ kind ≤ 6) (k : Nat) :
    ∃ (it : Itm) (k' : Nat), m_cncmill_motion [I p.x, I p.y, I p.z, I kind, .view kInts l, I k] = some (itmR it ++ [.view kInts l, I k']) ∧ k ≤ k' ∧ it.fr = p ∧ it.kind = kind ∧ Made it ∧ blank it :=
  a_motion (nextOK hl) (fun hp k => s_arc hl hp (by omega) k) hp hk k
end Go.Bm
