/- laid together -/
import Derived.Test.YtdllaekpkcanbaaPrGk
import Derived.Test.YtdllaekpkcanbaaPrM
import Derived.Test.YtdllaekpkcanbaaMy1
import Derived.Test.YtdllaekpkcanbaaPrI3
set_option linter.unusedVariables false
set_option linter.unusedSimpArgs false
/- every vertex of the chords of an arc that the laws make lies on the arc, but for 2 -/
set_option maxRecDepth 100000
namespace Go.Bm
open Classical

theorem midR_sq {R : Int} (h : 0 < R) : midR (R * R) = R := by
 refine midR_of ⟨by omega, ?_, .inr ?_⟩
 ·have : R * (R + 1) = R * R + R := by grind
  omega
 ·have : (R - 1) * R = R * R - R := by grind
  omega
theorem rot_dot {r s k t : Int} (hr : 0 <= r) (hs : 0 <= s) (hk : 0 <= k /\ k <= 3) (ht : 1 <= t /\ t <= 3) : dt2 (rotU r k) (rotW r k) (rotU s (k + t)) (rotW s (k + t)) <= 0 := by
 have hp := Int.mul_nonneg hr hs
 have hk' : k = 0 \/ k = 1 \/ k = 2 \/ k = 3 := by omega
 have ht' : t = 1 \/ t = 2 \/ t = 3 := by omega
 rcases hk' with rfl | rfl | rfl | rfl <;> rcases ht' with rfl | rfl | rfl <;> simp [dt2, rotU, rotW, Int.mul_neg, Int.neg_mul] <;> omega
structure ArcEnds (it : Itm) (R0 R1 : Int) : Prop where
 a : Sp (endS it it.fr)
 b : Sp (endS it it.to)
 ra : (endS it it.fr).r = R0 /\ sq2 (endS it it.fr).u (endS it it.fr).w = R0 * R0
 rb : (endS it it.to).r = R1 /\ sq2 (endS it it.to).u (endS it it.to).w = R1 * R1
 le : 128 <= R0 /\ R0 <= R1 /\ R1 <= R0 + 64
 full : it.full = true -> (endS it it.to).u = (endS it it.fr).u /\ (endS it it.to).w = (endS it it.fr).w /\ R1 = R0
 part : it.full = false -> dt2 (endS it it.fr).u (endS it it.fr).w (endS it it.to).u (endS it it.to).w <= 0
theorem arc_ends {size : Int} {it : Itm} (h : ArcMade size it) (hv : validI it) : ∃ R0 R1, ArcEnds it R0 R1 := by
 obtain ⟨r, k, t, g, x, h1, h2, h3, h4, h5, h6, h7, h8, h9, h10, h11, h12, h13⟩ := h.ends
 have hp := h.plane
 have a1 : dU it it.fr = rotU r k := by unfold dU; rw [h12, (pl_sp hp).1]; omega
 have a2 : dW it it.fr = rotW r k := by unfold dW; rw [h12, (pl_sp hp).2.1]; omega
 have a3 : dU it it.to = rotU (r + g) (k + t) := by unfold dU; rw [h12, h13, (pl_sp hp).1, (pl_sp hp).1]; omega
 have a4 : dW it it.to = rotW (r + g) (k + t) := by unfold dW; rw [h12, h13, (pl_sp hp).2.1, (pl_sp hp).2.1]; omega
 have e1 : sq2 (dU it it.fr * 16) (dW it it.fr * 16) = (16 * r) * (16 * r) := by
  have : sq2 (dU it it.fr * 16) (dW it it.fr * 16) = 256 * sq2 (dU it it.fr) (dW it it.fr) := by unfold sq2; grind
  rw [this, a1, a2, rot_sq]; grind
 have e2 : sq2 (dU it it.to * 16) (dW it it.to * 16) = (16 * (r + g)) * (16 * (r + g)) := by
  have : sq2 (dU it it.to * 16) (dW it it.to * 16) = 256 * sq2 (dU it it.to) (dW it it.to) := by unfold sq2; grind
  rw [this, a3, a4, rot_sq]; grind
 have m1 : (endS it it.fr).r = 16 * r := by unfold endS; simp only; rw [e1, midR_sq (by omega)]
 have m2 : (endS it it.to).r = 16 * (r + g) := by unfold endS; simp only; rw [e2, midR_sq (by omega)]
 obtain ⟨-, v1, v2, v3⟩ := hv
 obtain ⟨-, -, v6, -⟩ := v3 h.kind
 have o1 := endS_ok v6 v1
 have o2 := endS_ok v6 v2
 have nrm : ∀ R : Int, 128 <= R -> (R - 1) * (R - 1) <= R * R /\ R * R <= (R + 1) * (R + 1) := fun R hR => ⟨Int.mul_self_le_mul_self (by omega) (by omega), Int.mul_self_le_mul_self (by omega) (by omega)⟩
 refine ⟨16 * r, 16 * (r + g), ⟨o1, by omega, ?_⟩, ⟨o2, by omega, ?_⟩, ⟨m1, e1⟩, ⟨m2, e2⟩, by omega, ?_, ?_⟩
 ·rw [m1]; show _ <= sq2 (dU it it.fr * 16) (dW it it.fr * 16) /\ sq2 (dU it it.fr * 16) (dW it it.fr * 16) <= _
  rw [e1]; exact nrm _ (by omega)
 ·rw [m2]; show _ <= sq2 (dU it it.to * 16) (dW it it.to * 16) /\ sq2 (dU it it.to * 16) (dW it it.to * 16) <= _
  rw [e2]; exact nrm _ (by omega)
 ·intro hf
  rw [h11] at hf
  have ht := of_decide_eq_true hf
  have hg := h10 ht
  show dU it it.to * 16 = dU it it.fr * 16 /\ dW it it.to * 16 = dW it it.fr * 16 /\ _
  rw [a1, a2, a3, a4, ht, hg, Int.add_zero, Int.add_zero]
  exact ⟨rfl, rfl, rfl⟩
 ·intro hf
  rw [h11] at hf
  have ht := of_decide_eq_false hf
  show dt2 (dU it it.fr * 16) (dW it it.fr * 16) (dU it it.to * 16) (dW it it.to * 16) <= 0
  have e3 : dt2 (dU it it.fr * 16) (dW it it.fr * 16) (dU it it.to * 16) (dW it it.to * 16) = 256 * dt2 (dU it it.fr) (dW it it.fr) (dU it it.to) (dW it it.to) := by unfold dt2; grind
  have := rot_dot (r := r) (s := r + g) (k := k) (t := t) (by omega) (by omega) ⟨h3, h4⟩ (by omega)
  rw [e3, a1, a2, a3, a4]
  omega
theorem spokes_in {it : Itm} {R0 R1 : Int} (hd : it.dir = 1 \/ it.dir = -1) (h : ArcEnds it R0 R1) : ∀ q ∈ spokesP it, Btw (endS it it.fr) (endS it it.to) q /\ (it.full = true \/ passedP (endS it it.fr).u (endS it it.fr).w (endS it it.to).u (endS it it.to).w q.u q.w it.dir) := by
 intro q hq
 have hle := h.le
 unfold spokesP at hq
 have hra := h.ra
 have hrb := h.rb
 generalize ha : endS it it.fr = a at *
 generalize hb : endS it it.to = b at *
 rcases List.mem_cons.1 hq with hq | hq
 ·subst hq
  refine ⟨btw_left (ha ▸ h.a), ?_⟩
  by_cases hf : it.full = true
  ·exact .inl hf
  ·right
   have z : crs q.u q.w q.u q.w = 0 := by unfold crs; grind
   have hdt := h.part (by simpa using hf)
   rw [ha, hb] at hdt
   unfold passedP
   rw [z]
   by_cases c1 : crs q.u q.w b.u b.w * it.dir > 0
   ·rw [if_pos c1]; exact ⟨by simp, by omega⟩
   ·rw [if_neg c1]
    by_cases c2 : crs q.u q.w b.u b.w * it.dir = 0 /\ dt2 q.u q.w b.u b.w < 0
    ·rw [if_pos c2]; simp
    ·rw [if_neg c2]; right; simp
 ·by_cases hf : it.full = true
  ·rw [hf] at hq
   have g := h.full hf
   rw [ha, hb] at g
   exact ⟨full_in hd 14 (ha ▸ h.a) (hb ▸ h.b) ⟨g.1, g.2.1⟩ (by rw [hrb.1, hra.1, g.2.2]) (by rw [hra.2, hra.1]) q hq, .inl hf⟩
  ·have hf' : it.full = false := by simpa using hf
   rw [hf'] at hq
   have hdt := h.part hf'
   rw [ha, hb] at hdt
   obtain ⟨g1, g2⟩ := wide_in hd 15 (ha ▸ h.a) (hb ▸ h.b) (by rw [hra.1, hrb.1]; omega) hdt q hq
   exact ⟨g1, .inr g2⟩
theorem above_in {R0 R1 R Q : Int} (h0 : 128 <= R0 /\ R0 <= R1) (hR : R0 <= R /\ R <= R1) (h : (R - 1) * (R - 1) <= Q /\ Q <= (R + 1) * (R + 1)) : aboveP (R0 * R0) Q 2 /\ aboveP Q (R1 * R1) 2 := by
 have k1 : (R0 - 1) * (R0 - 1) <= Q := Int.le_trans (Int.mul_self_le_mul_self (by omega) (by omega)) h.1
 have k2 : Q <= (R1 + 1) * (R1 + 1) := Int.le_trans h.2 (Int.mul_self_le_mul_self (by omega) (by omega))
 have e1 : (R0 - 1) * (R0 - 1) = R0 * R0 - 2 * R0 + 1 := by grind
 have e2 : (R1 + 1) * (R1 + 1) = R1 * R1 + 2 * R1 + 1 := by grind
 unfold aboveP
 constructor
 ·by_cases c : R0 * R0 - Q - 2 * 2 <= 0
  ·exact .inl c
  ·right
   have := Int.mul_self_le_mul_self (show 0 <= R0 * R0 - Q - 2 * 2 by omega) (show R0 * R0 - Q - 2 * 2 <= 2 * (R0 - 1) by omega)
   have e3 : 2 * (R0 - 1) * (2 * (R0 - 1)) = 4 * ((R0 - 1) * (R0 - 1)) := by grind
   have n := sq_nn (R0 - 1)
   omega
 ·by_cases c : Q - R1 * R1 - 2 * 2 <= 0
  ·exact .inl c
  ·right
   have := Int.mul_self_le_mul_self (show 0 <= Q - R1 * R1 - 2 * 2 by omega) (show Q - R1 * R1 - 2 * 2 <= 2 * R1 by omega)
   have e3 : 2 * R1 * (2 * R1) = 4 * (R1 * R1) := by grind
   have n := sq_nn R1
   omega
theorem vertex_on {it : Itm} {R0 R1 : Int} (hp : isPl it.plane) (hd : it.dir = 1 \/ it.dir = -1) (h : ArcEnds it R0 R1) {s : Spk} (hs : s ∈ spokesP it) : onArcP it (chPt it s) 2 := by
 obtain ⟨hb, hps⟩ := spokes_in hd h s hs
 have hle := h.le
 have hra := h.ra
 have hrb := h.rb
 have pe1 : pU it (fine it.fr) = (endS it it.fr).u := by show _ = dU it it.fr * 16; unfold pU dU; rw [(pl_fine _ _).1, (pl_fine _ _).1]; omega
 have pe2 : pW it (fine it.fr) = (endS it it.fr).w := by show _ = dW it it.fr * 16; unfold pW dW; rw [(pl_fine _ _).2.1, (pl_fine _ _).2.1]; omega
 have pe3 : pU it (fine it.to) = (endS it it.to).u := by show _ = dU it it.to * 16; unfold pU dU; rw [(pl_fine _ _).1, (pl_fine _ _).1]; omega
 have pe4 : pW it (fine it.to) = (endS it it.to).w := by show _ = dW it it.to * 16; unfold pW dW; rw [(pl_fine _ _).2.1, (pl_fine _ _).2.1]; omega
 have pe5 : plH it.plane (fine it.fr) = (endS it it.fr).h := (pl_fine _ _).2.2
 have pe6 : plH it.plane (fine it.to) = (endS it it.to).h := (pl_fine _ _).2.2
 have c1 : pU it (chPt it s) = s.u := by unfold pU chPt; rw [(pl_sp hp).1]; omega
 have c2 : pW it (chPt it s) = s.w := by unfold pW chPt; rw [(pl_sp hp).2.1]; omega
 have c3 : plH it.plane (chPt it s) = s.h := by unfold chPt; rw [(pl_sp hp).2.2]
 have hR := hb.r
 have hH := hb.h
 have ab := above_in (R0 := R0) (R1 := R1) (R := s.r) ⟨hle.1, hle.2.1⟩ (by rw [hra.1, hrb.1] at hR; unfold mn mx at hR; split at hR <;> split at hR <;> omega) hb.sp.norm
 have hsq : R0 * R0 <= R1 * R1 := Int.mul_self_le_mul_self (by omega) hle.2.1
 unfold onArcP
 rw [pe1, pe2, pe3, pe4, pe5, pe6, c1, c2, c3, hra.2, hrb.2, Int.min_eq_left hsq, Int.max_eq_right hsq]
 rw [mn_min, mx_max] at hH
 refine ⟨ab.1, ab.2, by omega, by omega, ?_⟩
 rcases hps with g | g
 ·exact .inl g
 ·exact .inr (.inl g)
end Go.Bm
/- the laws ContourEnds and ContourGrows, over the models -/
set_option maxRecDepth 100000
namespace Go.Bm

theorem a_beside2 {M : List AC -> Option (List AC)} {p d : Pt} {b : Nat} (hp : bd b p) (hb : b <= 1000000000) (h1 : M [I d.x, I 41] = some [I (d.x % 41)]) (h2 : M [I d.y, I 41] = some [I (d.y % 41)]) (h3 : M [I d.z, I 41] = some [I (d.z % 41)]) :
  ∃ q : Pt, mf_cnclaw41_beside M [I p.x, I p.y, I p.z, I d.x, I d.y, I d.z] = some (ptR q) /\ bd (b + 20) q := by
 rw [mf_cnclaw41_beside_eq]
 simp only [go_sem, h1, h2, h3]
 obtain ⟨g1, g2, g3⟩ := hp
 rw [wrap_id (x := d.x % 41 - 20) (by omega), wrap_id (x := d.y % 41 - 20) (by omega), wrap_id (x := d.z % 41 - 20) (by omega), wrap_id (x := p.x + (d.x % 41 - 20)) (by omega), wrap_id (x := p.y + (d.y % 41 - 20)) (by omega), wrap_id (x := p.z + (d.z % 41 - 20)) (by omega)]
 exact ⟨⟨_, _, _⟩, rfl, by simp only; omega, by simp only; omega, by simp only; omega⟩
theorem s_beside2 {p d : Pt} {b : Nat} (hp : bd b p) (hb : b <= 1000000000) (h1 : i64 d.x) (h2 : i64 d.y) (h3 : i64 d.z) : ∃ q : Pt, m_cnclaw41_beside [I p.x, I p.y, I p.z, I d.x, I d.y, I d.z] = some (ptR q) /\ bd (b + 20) q :=
 a_beside2 hp hb (s_cncmill_Mod h1 (by omega)) (s_cncmill_Mod h2 (by omega)) (s_cncmill_Mod h3 (by omega))
end Go.Bm
/- the law ContourArc, over the models -/
set_option maxRecDepth 100000
namespace Go.Bm
open Classical

theorem a_Arc {MA MN MF : List AC -> Option (List AC)} {l : List (List AC)} {size : Int} (hN : NextOK l MN) (hF : MF [.view kInts l] = some [.view kInts l, I 0]) (hs : 1 <= size /\ size <= 100000)
  (hA : ∀ (p : Pt) (k : Nat), bd 100 p -> ∃ (it : Itm) (k' : Nat), MA [I p.x, I p.y, I p.z, I size, .view kInts l, I k] = some (itmR it ++ [.view kInts l, I k']) /\ it.fr = p /\ ArcMade size it) :
  ∃ it : Itm, mf_cncmill_Arc MA MN MF [.view kInts l, I size] = some (itmR it) /\ bd 100 it.fr /\ ArcMade size it := by
 obtain ⟨a, k1, n1, a1, a2, -⟩ := hN 0 (n := 200) (by omega)
 obtain ⟨b, k2, n2, b1, b2, -⟩ := hN k1 (n := 200) (by omega)
 obtain ⟨c, k3, n3, c1, c2, -⟩ := hN k2 (n := 200) (by omega)
 have hb : bd 100 ⟨a - 100, b - 100, c - 100⟩ := by unfold bd; simp only; omega
 obtain ⟨it, k', h1, h2, h3⟩ := hA ⟨a - 100, b - 100, c - 100⟩ k3 hb
 refine ⟨it, ?_, by rw [h2]; exact hb, h3⟩
 have hmx : mx size 1 = size := by unfold mx; split <;> omega
 rw [mf_cncmill_Arc_eq]
 simp only [itmR, List.cons_append, List.nil_append] at h1
 simp only [go_sem, hF, wrap_id (x := a - 100) (by omega), wrap_id (x := b - 100) (by omega), wrap_id (x := c - 100) (by omega), hmx, h1, show ((0 : Nat) : Int) = 0 from rfl] at n1 n2 n3 ⊢
 simp only [n1, n2, n3, go_sem, wrap_id (x := a - 100) (by omega), wrap_id (x := b - 100) (by omega), wrap_id (x := c - 100) (by omega), h1]
theorem s_Arc {l : List (List AC)} (hl : Src l) {size : Int} (hs : 1 <= size /\ size <= 100000) : ∃ it : Itm, m_cncmill_Arc [.view kInts l, I size] = some (itmR it) /\ bd 100 it.fr /\ ArcMade size it :=
 a_Arc (nextOK hl) (s_From l) hs fun p k hp => by
  obtain ⟨it, k', h1, -, h2, h3, -⟩ := s_arc hl (p := p) (bd_mono hp (by omega)) (size := size) (by omega) k
  exact ⟨it, k', h1, h2, h3⟩
theorem a_ContourArc {MR MO MB MF MC MA MD MW : List AC -> Option (List AC)} {l : List (List AC)} {size k e : Int} {d : Pt} {it : Itm} {c : List Pt} (hW : MW [] = some [B true])
  (hD1 : MD [I size, I 200] = some [I (size % 200)]) (hD2 : MD [I e, I 40] = some [I (e % 40)]) (hA : MA [.view kInts l, I (1 + size % 200)] = some (itmR it)) (hC : MC (itmR it) = some [.view kPt (c.map ptR), B true]) (hc0 : 0 < c.length)
  (hD3 : MD [I k, I c.length] = some [I (k % c.length)]) (hF : MF [I it.ce.x, I it.ce.y, I it.ce.z] = some (ptR (fine it.ce))) (hce : bd 100000 (fine it.ce)) (hcb : ∀ p ∈ c, bd 67108864 p)
  (hB : ∀ p : Pt, bd 70000000 p -> ∃ q : Pt, MB [I p.x, I p.y, I p.z, I d.x, I d.y, I d.z] = some (ptR q) /\ bd 70000020 q)
  (hO : ∀ (q : Pt) (f : Int), bd 100000000 q -> (0 <= f /\ f <= 32000) -> MO (itmR it ++ [I q.x, I q.y, I q.z, I f]) = some [B (decide (validI it /\ onArcP it q f))] /\ MR (itmR it ++ [I q.x, I q.y, I q.z, I f]) = some [B (decide (validI it /\ onArcP it q f))])
  (h2 : ∀ p ∈ c, validI it /\ onArcP it p 2) :
  mf_cnclaw41_ContourArc MR MO MB MF MC MA MD MW [.view kInts l, I size, I k, I d.x, I d.y, I d.z, I e] = some [B true] := by
 have hk1 : 0 <= k % (c.length : Int) := Int.emod_nonneg _ (by omega)
 have hk2 : k % (c.length : Int) < c.length := Int.emod_lt_of_pos _ (by omega)
 obtain ⟨j, hj⟩ : ∃ j : Nat, k % (c.length : Int) = j := ⟨(k % (c.length : Int)).toNat, by omega⟩
 rw [hj] at hD3 hk1 hk2
 have hjl : j < c.length := by omega
 have hr : nth [] (c.map ptR) j = ptR c[j] := nth_map _ _ _ _ hjl
 have hpm := List.getElem_mem hjl
 generalize c[j] = p at *
 have hpb := hcb p hpm
 have hp2 := h2 p hpm
 obtain ⟨g1, g2, g3⟩ := id hpb
 obtain ⟨f1, f2, f3⟩ := id hce
 have hop : bd 70000000 ⟨2 * (fine it.ce).x - p.x, 2 * (fine it.ce).y - p.y, 2 * (fine it.ce).z - p.z⟩ := by
  unfold bd; simp only; omega
 obtain ⟨q1, b1, c1⟩ := hB p (bd_mono hpb (by omega))
 obtain ⟨q2, b2, c2⟩ := hB (fine it.ce) (bd_mono hce (by omega))
 obtain ⟨q3, b3, c3⟩ := hB _ hop
 have he : 0 <= e % 40 /\ e % 40 <= 32000 := by omega
 have o1 := hO q1 (e % 40) (bd_mono c1 (by omega)) he
 have o2 := hO q2 (e % 40) (bd_mono c2 (by omega)) he
 have o3 := hO q3 (e % 40) (bd_mono c3 (by omega)) he
 have o4 := hO p (e % 40) (bd_mono hpb (by omega)) he
 have o5 := (hO p 2 (bd_mono hpb (by omega)) (by omega)).1
 rw [decide_eq_true hp2] at o5
 clear hO hB
 generalize decide (validI it /\ onArcP it q1 (e % 40)) = v1 at *
 generalize decide (validI it /\ onArcP it q2 (e % 40)) = v2 at *
 generalize decide (validI it /\ onArcP it q3 (e % 40)) = v3 at *
 generalize decide (validI it /\ onArcP it p (e % 40)) = v4 at *
 obtain ⟨o1, o1'⟩ := o1
 obtain ⟨o2, o2'⟩ := o2
 obtain ⟨o3, o3'⟩ := o3
 obtain ⟨o4, o4'⟩ := o4
 have w1 : IntKind.i64.wrap (1 + size % 200) = 1 + size % 200 := wrap_id (by omega)
 have w2 : IntKind.i64.wrap (IntKind.i64.wrap (2 * (fine it.ce).x) - p.x) = 2 * (fine it.ce).x - p.x := by rw [wrap_id (x := 2 * (fine it.ce).x) (by omega), wrap_id (by omega)]
 have w3 : IntKind.i64.wrap (IntKind.i64.wrap (2 * (fine it.ce).y) - p.y) = 2 * (fine it.ce).y - p.y := by rw [wrap_id (x := 2 * (fine it.ce).y) (by omega), wrap_id (by omega)]
 have w4 : IntKind.i64.wrap (IntKind.i64.wrap (2 * (fine it.ce).z) - p.z) = 2 * (fine it.ce).z - p.z := by rw [wrap_id (x := 2 * (fine it.ce).z) (by omega), wrap_id (by omega)]
 simp only [itmR, ptR, List.cons_append, List.nil_append] at *
 rw [mf_cnclaw41_ContourArc_eq]
 simp only [go_sem, hW, hD1, w1, hA, hD2, hC, List.length_map, hD3, Int.toNat_natCast, hr, if_pos (And.intro hk1 hk2), hF, b1, b2, w2, w3, w4, b3, o1, o1', o2, o2', o3, o3', o4, o4', o5]
 simp
theorem s_ContourArc {l : List (List AC)} (hl : Src l) {size k e : Int} {d : Pt} (h1 : i64 size) (h2 : i64 k) (h3 : i64 d.x) (h4 : i64 d.y) (h5 : i64 d.z) (h6 : i64 e) :
  m_cnclaw41_ContourArc [.view kInts l, I size, I k, I d.x, I d.y, I d.z, I e] = some [B true] := by
 obtain ⟨it, hA, hfr, hm⟩ := s_Arc hl (size := 1 + size % 200) (by omega)
 obtain ⟨b1, b2⟩ := arc_bd hm (by omega) hfr
 have b1' : bd 4000 it.to := bd_mono b1 (by omega)
 have b2' : bd 4000 it.ce := bd_mono b2 (by omega)
 have hv : validI it := ⟨by rw [hm.kind]; omega, bd_mono hfr (by omega), bd_mono b1' (by omega), fun _ => ⟨hm.plane, hm.dir, bd_mono b2' (by omega), arc_turn hm⟩⟩
 obtain ⟨R0, R1, hends⟩ := arc_ends hm hv
 have hch : chordsP it = (spokesP it).map (chPt it) := by unfold chordsP; rw [if_pos hm.kind]
 have hlen := spokesP_len it
 have hcl : (chordsP it).length = (spokesP it).length := by rw [hch, List.length_map]
 refine a_ContourArc m_cnclaw41_awake_eq (s_cncmill_Mod h1 (by omega)) (s_cncmill_Mod h6 (by omega)) hA (s_cncref23_Chords hv) (by omega) (s_cncmill_Mod h2 (by omega)) (s_Fine (bd_mono b2' (by omega))) (bd_mono (fine_bd b2') (by omega)) (chordsP_bd hv)
  (fun p hp => s_beside2 hp (by omega) h3 h4 h5) (fun q f hq hf => OnArc_same hm.kind hq hf) fun p hp => ⟨hv, ?_⟩
 rw [hch] at hp
 obtain ⟨s, hs, rfl⟩ := List.mem_map.1 hp
 exact vertex_on hm.plane hm.dir hends hs
end Go.Bm
/- what a law's arguments are known to be -/
set_option maxRecDepth 100000
namespace Go.Bm

theorem okR_int {r : List AC} (h : okR kInts r) : i64 (intOf (nth .dead r 0)) := by
 match r, h with
 | [], h => exact h.elim
 | a :: _, h => exact okC_int h.1
theorem okR_src {r : List AC} (h : okR [Kd.sl kInts] r) : Src (rowsOf (nth .dead r 0)) := by
 match r, h with
 | [], h => exact h.elim
 | a :: _, h =>
  have h1 := h.1
  unfold okC at h1
  refine ⟨?_, fun c hc => okR_int (h1.2 c hc).1⟩
  have h2 := h1.1
  simp only [maxLen] at h2
  show (rowsOf a).length <= _
  omega
end Go.Bm
