/- laid together -/
import Derived.Test.YtdllaekpkcanbaaPrRe
import Derived.Test.YtdllaekpkcanbaaMy1
import Derived.Test.YtdllaekpkcanbaaPrH
set_option linter.unusedVariables false
set_option linter.unusedSimpArgs false
/- the law TrackReturn, over the models -/
set_option maxRecDepth 100000
namespace Go.Bm
open Classical

theorem a_TrackReturn {MS MT MF ML MM MN MD MA MP MW : List AC -> Option (List AC)} {l ax : List (List AC)} {dirs from_ to : Int} {p : Pth} {x : Ax3} {d : Pt} {a b : Int} (hW : MW [] = some [B true])
  (hP : MP [.view kInts l, I 5] = some (pthR p)) (hA : MA [.view kInts ax] = some (ax3R x)) (hD : MD [I dirs] = some (ptR d)) (hL : MN (pthR p) = some [I (sumLen p.segs)])
  (hn : 0 <= sumLen p.segs /\ sumLen p.segs <= 263886834032640) (hM1 : MM [I from_, I (sumLen p.segs + 1)] = some [I a]) (hM2 : MM [I to, I (sumLen p.segs + 1)] = some [I b])
  (hT : ∀ {d : Pt} {a b : Int}, ML (pthR p ++ ax3R x ++ [I d.x, I d.y, I d.z, I a, I b]) = some (trkR (legP p x d a b))) (hF : ∀ {d : Pt} {a b : Int}, MF (trkR (legP p x d a b)) = some (ptR (finalP (legP p x d a b))))
  (hMo : ∀ {d : Pt} {a b u : Int}, MT (pthR p ++ ax3R x ++ trkR (legP p x d a b) ++ [I u]) = some (ptR (motorsP p x (legP p x d a b) u)))
  (hS1 : ∀ v, MS (axsR x.a ++ [I v]) = some [I (dirP x.a v)]) (hS2 : ∀ v, MS (axsR x.b ++ [I v]) = some [I (dirP x.b v)]) (hS3 : ∀ v, MS (axsR x.c ++ [I v]) = some [I (dirP x.c v)])
  (e1 : motorsP p x (legP p x d a b) (legP p x d a b).length = motorsP p x (legP p x (finalP (legP p x d a b)) b a) 0)
  (e2 : (motorsP p x (legP p x d a b) 0).x - dirP x.a d.x = (motorsP p x (legP p x (finalP (legP p x d a b)) b a) (legP p x (finalP (legP p x d a b)) b a).length).x - dirP x.a (finalP (legP p x (finalP (legP p x d a b)) b a)).x)
  (e3 : (motorsP p x (legP p x d a b) 0).y - dirP x.b d.y = (motorsP p x (legP p x (finalP (legP p x d a b)) b a) (legP p x (finalP (legP p x d a b)) b a).length).y - dirP x.b (finalP (legP p x (finalP (legP p x d a b)) b a)).y)
  (e4 : (motorsP p x (legP p x d a b) 0).z - dirP x.c d.z = (motorsP p x (legP p x (finalP (legP p x d a b)) b a) (legP p x (finalP (legP p x d a b)) b a).length).z - dirP x.c (finalP (legP p x (finalP (legP p x d a b)) b a)).z) :
  mf_cnclaw29_TrackReturn MS MT MF ML MM MN MD MA MP MW [.view kInts l, .view kInts ax, I dirs, I from_, I to] = some [B true] := by
 have t1 := hT (d := d) (a := a) (b := b)
 have f1 := hF (d := d) (a := a) (b := b)
 have t2 := hT (d := finalP (legP p x d a b)) (a := b) (b := a)
 have f2 := hF (d := finalP (legP p x d a b)) (a := b) (b := a)
 have m1 := fun u => hMo (d := d) (a := a) (b := b) (u := u)
 have m2 := fun u => hMo (d := finalP (legP p x d a b)) (a := b) (b := a) (u := u)
 clear hT hF hMo
 generalize legP p x d a b = o at *
 generalize finalP o = fd at *
 generalize legP p x fd b a = h at *
 generalize finalP h = hd at *
 rw [mf_cnclaw29_TrackReturn_eq]
 simp only [trkR, ax3R, pthR, axsR, List.cons_append, List.nil_append] at *
 simp only [go_sem, hW, hP, hA, hD, hL, wrap_id (x := sumLen p.segs + 1) (by omega), hM1, hM2, t1, f1, t2, m1, m2, e1, f2, hS1, hS2, hS3, e2, e3, e4]
 simp
theorem s_TrackReturn {l ax : List (List AC)} (hl : Src l) (ha : Src ax) {dirs from_ to : Int} (h2 : i64 dirs) (h3 : i64 from_) (h4 : i64 to) :
  m_cnclaw29_TrackReturn [.view kInts l, .view kInts ax, I dirs, I from_, I to] = some [B true] := by
 obtain ⟨p, hP, hp⟩ := s_MillPath hl (most := 5) (by omega)
 obtain ⟨x, hA, hx⟩ := s_Axes ha
 obtain ⟨d, hD, hd⟩ := s_Dirs h2
 have hn := sum_path hp
 have a0 := Int.emod_nonneg from_ (show sumLen p.segs + 1 ≠ 0 by omega)
 have a1 := Int.emod_lt_of_pos from_ (show 0 < sumLen p.segs + 1 by omega)
 have b0 := Int.emod_nonneg to (show sumLen p.segs + 1 ≠ 0 by omega)
 have b1 := Int.emod_lt_of_pos to (show 0 < sumLen p.segs + 1 by omega)
 have m1 := s_cncmill_Mod h3 (n := sumLen p.segs + 1) (by omega)
 have m2 := s_cncmill_Mod h4 (n := sumLen p.segs + 1) (by omega)
 generalize from_ % (sumLen p.segs + 1) = a at *
 generalize to % (sumLen p.segs + 1) = b at *
 have ca : clampP a (sumLen p.segs) = a := by unfold clampP; omega
 have cb : clampP b (sumLen p.segs) = b := by unfold clampP; omega
 obtain ⟨d1, hc1, hs1, hdd1⟩ := legP_chain (d := d) (a := a) (b := b) (Q := fun _ _ => True) hx.ok hp (fun _ _ _ _ _ _ _ _ => trivial)
 have ht1 := legP_TQ d a b hx.ok hp
 have ho1 : okD (legP p x d a b).dirs := by rw [hdd1]; exact hd
 have hk1 := legP_dirs (p := p) (x := x) (a := a) (b := b) (d := d) hd
 have hfo := final_ok ho1 hk1
 obtain ⟨d2, hc2, hs2, hdd2⟩ := legP_chain (d := finalP (legP p x d a b)) (a := b) (b := a) (Q := fun _ _ => True) hx.ok hp (fun _ _ _ _ _ _ _ _ => trivial)
 have ht2 := legP_TQ (finalP (legP p x d a b)) b a hx.ok hp
 have ho2 : okD (legP p x (finalP (legP p x d a b)) b a).dirs := by rw [hdd2]; exact hfo
 have hk2 := legP_dirs (p := p) (x := x) (a := b) (b := a) hfo
 obtain ⟨q1, q2⟩ := ends_motors (p := p) hx (mvP_or p a b) hc1 ht1 ho1 hk1
 obtain ⟨r1, r2⟩ := ends_motors (p := p) hx (mvP_or p b a) hc2 ht2 ho2 hk2
 rw [ca] at hs1
 rw [cb] at q2 hs2
 rw [ca] at r2
 rw [hs1, hdd1] at q1
 rw [hs2, hdd2] at r1
 refine a_TrackReturn m_cnclaw29_awake_eq hP hA hD (s_ref_Length hp.ok) hn m1 m2 (s_track_Leg hp hx.ok) (fun {d a b} => a_Final (legP_bd d a b hp hx.ok).1) (fun {d a b u} => s_Motors hp hx (legP_TH d a b hx.ok hp) u) (s_refShift hx.ok.a) (s_refShift hx.ok.b) (s_refShift hx.ok.c) ?_ ?_ ?_ ?_
 ·rw [q2, r1]
 ·rw [q1, r2]; simp only; omega
 ·rw [q1, r2]; simp only; omega
 ·rw [q1, r2]; simp only; omega
end Go.Bm
/- what a law's arguments are known to be -/
set_option maxRecDepth 100000
namespace Go.Bm

theorem okR_int {r : List AC} (h : okR kInts r) : i64 (intOf (nth .dead r 0)) := by
 match r, h with
 | [], h => exact h.elim
 | a :: _, h => exact okC_int h.1
theorem okR_src {r : List AC} (h : okR [Kd.sl kInts] r) : Src (rowsOf (nth .dead r 0)) := by
 match r, h with
 | [], h => exact h.elim
 | a :: _, h =>
  have h1 := h.1
  unfold okC at h1
  refine ⟨?_, fun c hc => okR_int (h1.2 c hc).1⟩
  have h2 := h1.1
  simp only [maxLen] at h2
  show (rowsOf a).length <= _
  omega
end Go.Bm
