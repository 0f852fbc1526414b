/- laid together -/
import Derived.Test.YtdllaekpkcanbaaPrLu
import Derived.Test.YtdllaekpkcanbaaPrGd
import Derived.Test.YtdllaekpkcanbaaPrRt
import Derived.Test.YtdllaekpkcanbaaPrPt
import Derived.Test.YtdllaekpkcanbaaMy1
import Derived.Test.YtdllaekpkcanbaaPrHg
import Derived.Test.YtdllaekpkcanbaaPrCw
import Derived.Test.YtdllaekpkcanbaaPrE
set_option linter.unusedVariables false
set_option linter.unusedSimpArgs false
/- the points of a motion, two by two, are near the motion -/
set_option maxRecDepth 100000
namespace Go.Bm
open Classical

def prs (P : Pt -> Pt -> Prop) : Pt -> List Pt -> Prop
 | _, [] => True
 | x, y :: l => P x y /\ prs P y l
theorem prs_app {P : Pt -> Pt -> Prop} {m : Pt} {l2 : List Pt} : ∀ {x : Pt} {l1 : List Pt}, prs P x (l1 ++ [m]) -> prs P m l2 -> prs P x (l1 ++ [m] ++ l2)
 | _, [], h1, h2 => ⟨h1.1, h2⟩
 | _, _ :: _, h1, h2 => ⟨h1.1, prs_app h1.2 h2⟩
theorem prs_all {P : Pt -> Pt -> Prop} {Q : Pt -> Prop} (h : ∀ a b, Q a -> Q b -> P a b) : ∀ {x : Pt} {l : List Pt}, Q x -> (∀ q ∈ l, Q q) -> prs P x l
 | _, [], _, _ => trivial
 | _, y :: _, hx, hq => ⟨h _ _ hx (hq y (by simp)), prs_all h (hq y (by simp)) fun q hm => hq q (by simp [hm])⟩
def GoodSeg (it : Itm) (W : Int) (p q : Pt) : Prop :=
 (it.kind ≠ 3 /\ ∃ m k k', NearL (fine it.fr) (fine it.to) p m k W /\ NearL (fine it.fr) (fine it.to) q m k' W) \/ (it.kind = 3 /\ ∃ x y, PairOK it x y /\ p = chPt it x /\ q = chPt it y)
def OnL (it : Itm) (W m : Int) (p : Pt) : Prop := ∃ k, NearL (fine it.fr) (fine it.to) p m k W
theorem goodL {it : Itm} {W m : Int} (h3 : it.kind ≠ 3) (a b : Pt) (ha : OnL it W m a) (hb : OnL it W m b) : GoodSeg it W a b := by
 obtain ⟨k, h⟩ := ha
 obtain ⟨k', h'⟩ := hb
 exact .inl ⟨h3, m, k, k', h, h'⟩
theorem center_on {it : Itm} {W m : Int} (hW : 0 <= W) (hm : 0 < m) : OnL it W (2 * m) (Qba it) := by
 refine ⟨m, Qku (E := 0) (by omega) ⟨by omega, by omega, ?_⟩ hW⟩
 unfold Qba fine
 simp only
 have e : ∀ a b : Int, 2 * m * ((a + b) * 8 - a * 16) - m * (b * 16 - a * 16) = 0 := fun a b => by grind
 rw [e, e, e]
 simp [nn3]
theorem center_two (it : Itm) : (2 * (Qba it).x = (fine it.fr).x + (fine it.to).x) /\ (2 * (Qba it).y = (fine it.fr).y + (fine it.to).y) /\ (2 * (Qba it).z = (fine it.fr).z + (fine it.to).z) := by
 unfold Qba fine
 simp only
 omega
theorem bd_center {it : Itm} (h1 : bd 100000 it.fr) (h2 : bd 100000 it.to) : bd 4000000 (Qba it) /\ bd 4000000 (fine it.fr) /\ bd 4000000 (fine it.to) := by
 unfold bd Qba fine at *
 simp only
 omega
theorem isPow_even {n : Int} (h : isPow n) : ∃ j : Nat, n = 2 * j /\ n.toNat = 2 * j /\ 1 <= j := by
 rcases h with rfl | rfl | rfl | rfl | rfl | rfl
 ·exact ⟨1, by decide, by decide, by decide⟩
 ·exact ⟨2, by decide, by decide, by decide⟩
 ·exact ⟨4, by decide, by decide, by decide⟩
 ·exact ⟨8, by decide, by decide, by decide⟩
 ·exact ⟨16, by decide, by decide, by decide⟩
 ·exact ⟨32, by decide, by decide, by decide⟩
theorem corner_halves {A B : Itm} {W tol : Int} (hA1 : bd 100000 A.fr) (hA2 : bd 100000 A.to) (hB1 : bd 100000 B.fr) (hB2 : bd 100000 B.to) (hAB : B.fr = A.to) (ht : 0 <= tol) (hW : tol + 4 <= W) :
  (∃ m, 0 < m /\ ∀ p ∈ (Qg1 (Qba A) (fine A.to) (Qba B) tol).take ((Qg1 (Qba A) (fine A.to) (Qba B) tol).length / 2 + 1), OnL A W (2 * m) p) /\
  (∃ m, 0 < m /\ ∀ p ∈ (Qg1 (Qba A) (fine A.to) (Qba B) tol).drop ((Qg1 (Qba A) (fine A.to) (Qba B) tol).length / 2), OnL B W (2 * m) p) := by
 obtain ⟨ca, fa1, fa2⟩ := bd_center hA1 hA2
 obtain ⟨cb, fb1, fb2⟩ := bd_center hB1 hB2
 obtain ⟨tx, ty, tz⟩ := center_two A
 obtain ⟨ux, uy, uz⟩ := center_two B
 unfold Qg1
 by_cases h : Qgd (Qba A) (fine A.to) (Qba B) tol = 0
 ·rw [if_pos h]
  constructor
  ·refine ⟨1, by omega, fun p hp => ?_⟩
   simp at hp
   subst hp
   exact ⟨_, Qku (by omega) (near_self (fine A.fr) (fine A.to) (m := 2 * 1) (by omega)).2 (by omega)⟩
  ·refine ⟨1, by omega, fun p hp => ?_⟩
   simp at hp
   subst hp
   rw [<- hAB]
   exact ⟨_, Qku (by omega) (near_self (fine B.fr) (fine B.to) (m := 2 * 1) (by omega)).1 (by omega)⟩
 ·rw [if_neg h]
  obtain ⟨n1, n2, S, T, hb⟩ := bl_of ca fa2 cb h
  have A24 := Qau ca (show 4000000 <= B24 by decide)
  have C24 := Qau fa2 (show 4000000 <= B24 by decide)
  have D24 := Qau cb (show 4000000 <= B24 by decide)
  obtain ⟨-, -, h3, h4, h5, -⟩ := reach_spec h
  obtain ⟨m1, m2⟩ := mn_le (lenP (Qba A) (fine A.to)) (lenP (fine A.to) (Qba B))
  generalize Qgd (Qba A) (fine A.to) (Qba B) tol = d at *
  have k1 : bd B24 (towP (fine A.to) (Qba A) d) := Qlc C24 A24 n1 (by omega)
  have k2 : bd B24 (towP (fine A.to) (Qba B) d) := Qlc C24 D24 n2 (by rw [lenP_comm (Qba B)]; omega)
  obtain ⟨j, hj, hj2, hj1⟩ := isPow_even (Qg5 k1 C24 k2).2
  generalize piecesP (towP (fine A.to) (Qba A) d) (fine A.to) (towP (fine A.to) (Qba B) d) = n at *
  have hlen : ((List.range (n.toNat + 1)).map fun (i : Nat) => mixP n i (towP (fine A.to) (Qba A) d) (fine A.to) (towP (fine A.to) (Qba B) d)).length = 2 * j + 1 := by simp; omega
  rw [hlen, show (2 * j + 1) / 2 = j by omega, hj2]
  have hnn : 0 < n * n := Int.mul_pos (by omega) (by omega)
  have hS : 0 < S := by have := hb.hd; omega
  have hT : 0 < T := by have := hb.hd; omega
  constructor
  ·refine ⟨S * (n * n), Int.mul_pos hS hnn, fun p hp => ?_⟩
   rw [<- List.map_take, List.mem_map] at hp
   obtain ⟨i, hi, rfl⟩ := hp
   rw [List.mem_take_iff_getElem] at hi
   obtain ⟨i', h1, h2⟩ := hi
   simp at h1 h2
   subst h2
   have := tail_near ca fa2 n1 ht hb tx ty tz (i := (i' : Int)) ⟨by omega, by omega⟩
   rw [show 2 * S * (n * n) = 2 * (S * (n * n)) by grind] at this
   exact ⟨_, Qku (by omega) this hW⟩
  ·refine ⟨T * (n * n), Int.mul_pos hT hnn, fun p hp => ?_⟩
   rw [<- List.map_drop, List.mem_map] at hp
   obtain ⟨i, hi, rfl⟩ := hp
   rw [List.mem_drop_iff_getElem] at hi
   obtain ⟨i', h1, h2⟩ := hi
   simp at h1 h2
   subst h2
   rw [hAB] at ux uy uz
   have := head_near (B := fine B.to) cb fa2 n2 ht hb (by omega) (by omega) (by omega) (i := ((j + i' : Nat) : Int)) ⟨by omega, by omega⟩
   rw [show 2 * T * (n * n) = 2 * (T * (n * n)) by grind] at this
   refine ⟨n * (n - 2 * (n - ((j + i' : Nat) : Int))) * d, Qku (E := tol + 4) (by omega) ?_ hW⟩
   rw [hAB]
   exact this
end Go.Bm
/- the points of a motion of a path, two by two; its first and its last point -/
set_option maxRecDepth 100000
namespace Go.Bm
open Classical

theorem prs_spokes {it : Itm} {W : Int} (h3 : it.kind = 3) : ∀ {x : Spk} {l : List Spk}, Qjd (PairOK it) x l -> prs (GoodSeg it W) (chPt it x) (l.map (chPt it))
 | _, [], _ => trivial
 | _, _ :: _, h => ⟨.inr ⟨h3, _, _, h.1, rfl, rfl⟩, prs_spokes h3 h.2⟩
noncomputable def midPt (l : List Pt) : Pt := l.getD (l.length / 2) ⟨0, 0, 0⟩
theorem drop_half {l : List Pt} (h : l ≠ []) : ∃ r, l.drop (l.length / 2) = midPt l :: r := by
 have hl : 0 < l.length := List.length_pos_iff.2 h
 have hlt : l.length / 2 < l.length := by omega
 refine ⟨l.drop (l.length / 2 + 1), ?_⟩
 rw [Qfd l _ hlt]
 unfold midPt
 simp [hlt]
theorem take_half {l : List Pt} (h : l ≠ []) : ∃ r, l.take (l.length / 2 + 1) = r ++ [midPt l] := by
 have hl : 0 < l.length := List.length_pos_iff.2 h
 have hlt : l.length / 2 < l.length := by omega
 refine ⟨l.take (l.length / 2), ?_⟩
 rw [List.take_succ_eq_append_getElem hlt]
 unfold midPt
 simp [hlt]
theorem corner_ne (a c b : Pt) (tol : Int) : Qg1 a c b tol ≠ [] := by
 unfold Qg1
 split
 ·simp
 ·simp
theorem joined_ne (items : List Itm) (i k : Nat) : Qko items i k ≠ [] := corner_ne _ _ _ _
structure MotOK (it : Itm) (W : Int) : Prop where
 valid : Qfa it
 fr : bd 100000 it.fr
 to : bd 100000 it.to
 blend : 0 <= it.blend /\ it.blend * 16 + 4 <= W
 arc : it.kind = 3 -> isPl it.plane /\ (it.dir = 1 \/ it.dir = -1) /\ ∃ R0 R1, ArcEnds it R0 R1 /\ ArcMore it R0
noncomputable def firstP (items : List Itm) (i : Nat) (frm : Int) : Pt := if 0 <= frm /\ smI (itA items i) then midPt (Qko items frm.toNat i) else fine (itA items i).fr
theorem points_good {items : List Itm} {i : Nat} {frm W : Int} (hm : MotOK (itA items i) W)
  (hf : ∀ f : Nat, frm = f -> MotOK (itA items f) W /\ (itA items i).fr = (itA items f).to)
  (hs : ∀ k : Nat, Qiw items i = k -> MotOK (itA items k) W /\ (itA items k).fr = (itA items i).to) :
  ∃ rest, Qdg items i frm = firstP items i frm :: rest /\ prs (GoodSeg (itA items i) W) (firstP items i frm) rest := by
 have hW : 0 <= W := by have := hm.blend; omega
 unfold Qdg firstP
 by_cases c : smI (itA items i)
 ·rw [if_pos c]
  have h3 : (itA items i).kind ≠ 3 := by have := c.1; omega
  have hch : Qdy (itA items i) = [fine (itA items i).fr, fine (itA items i).to] := by unfold Qdy; rw [if_neg h3]
  -- the head
  have hhead : ∃ q0 r mh, headP items i frm = q0 :: r /\ q0 = (if 0 <= frm /\ smI (itA items i) then midPt (Qko items frm.toNat i) else fine (itA items i).fr) /\ 0 < mh /\ ∀ p ∈ q0 :: r, OnL (itA items i) W (2 * mh) p := by
   unfold headP
   by_cases c2 : 0 <= frm
   ·obtain ⟨f, rfl⟩ := Int.eq_ofNat_of_zero_le c2
    obtain ⟨g1, g2⟩ := hf f rfl
    rw [if_pos c2, if_pos ⟨c2, c⟩, Int.toNat_natCast]
    obtain ⟨r, hr⟩ := drop_half (joined_ne items f i)
    obtain ⟨-, mh, hmh, hall⟩ := corner_halves (A := itA items f) (B := itA items i) (W := W) (tol := (itA items f).blend * 16) g1.fr g1.to hm.fr hm.to g2 (by have := g1.blend; omega) g1.blend.2
    refine ⟨_, r, mh, hr, rfl, hmh, ?_⟩
    rw [<- hr]
    exact hall
   ·rw [if_neg c2, if_neg (fun h => c2 h.1), hch]
    refine ⟨_, [], 1, rfl, rfl, by omega, fun p hp => ?_⟩
    simp at hp
    subst hp
    exact ⟨_, Qku (by omega) (near_self _ _ (m := 2 * 1) (by omega)).1 hW⟩
  have htail : ∃ mt, 0 < mt /\ ∀ p ∈ tailP items i, OnL (itA items i) W (2 * mt) p := by
   unfold tailP
   by_cases c2 : 0 <= Qiw items i
   ·obtain ⟨k, hk⟩ := Int.eq_ofNat_of_zero_le c2
    obtain ⟨g1, g2⟩ := hs k hk
    rw [if_pos c2, hk, Int.toNat_natCast]
    exact (corner_halves (A := itA items i) (B := itA items k) (W := W) (tol := (itA items i).blend * 16) hm.fr hm.to g1.fr g1.to g2 (by have := hm.blend; omega) hm.blend.2).1
   ·rw [if_neg c2, hch]
    refine ⟨1, by omega, fun p hp => ?_⟩
    simp at hp
    subst hp
    exact ⟨_, Qku (by omega) (near_self _ _ (m := 2 * 1) (by omega)).2 hW⟩
  obtain ⟨q0, r, mh, e1, e2, e3, e4⟩ := hhead
  obtain ⟨mt, t1, t2⟩ := htail
  rw [e1, <- e2]
  refine ⟨r ++ [Qba (itA items i)] ++ tailP items i, rfl, prs_app (prs_all (goodL (m := 2 * mh) h3) (e4 _ (by simp)) fun q hq => ?_) (prs_all (goodL (m := 2 * mt) h3) (center_on hW t1) t2)⟩
  rcases List.mem_append.1 hq with hq | hq
  ·exact e4 q (by simp [hq])
  ·simp at hq; subst hq; exact center_on hW e3
 ·rw [if_neg c, if_neg (fun h => c h.2)]
  by_cases h3 : (itA items i).kind = 3
  ·obtain ⟨hp, hd, R0, R1, he, hmo⟩ := hm.arc h3
   have hpr := arc_pairs hd he hmo
   have hch : Qdy (itA items i) = chPt (itA items i) (endS (itA items i) (itA items i).fr) :: (pcsL (itA items i).dir 16 (itA items i).full (endS (itA items i) (itA items i).fr) (endS (itA items i) (itA items i).to)).map (chPt (itA items i)) := by
    unfold Qdy Qez; rw [if_pos h3, List.map_cons]
   rw [hch, <- ch_end hm.valid h3 (itA items i).fr]
   exact ⟨_, rfl, prs_spokes h3 hpr⟩
  ·have hch : Qdy (itA items i) = [fine (itA items i).fr, fine (itA items i).to] := by unfold Qdy; rw [if_neg h3]
   rw [hch]
   refine ⟨_, rfl, goodL (m := 1) h3 _ _ ⟨_, Qku (by omega) (near_self _ _ (m := 1) (by omega)).1 hW⟩ ⟨_, Qku (by omega) (near_self _ _ (m := 1) (by omega)).2 hW⟩, trivial⟩
theorem points_soft {items : List Itm} {i : Nat} {frm : Int} (hs : 0 <= Qiw items i) : ∃ l, Qdg items i frm = l ++ [midPt (Qko items i (Qiw items i).toNat)] := by
 have c : smI (itA items i) := by
  rcases softK_spec items i with h | h
  ·omega
  ·exact h.1
 unfold Qdg tailP
 rw [if_pos c, if_pos hs]
 obtain ⟨r, hr⟩ := take_half (joined_ne items i (Qiw items i).toNat)
 rw [hr]
 exact ⟨headP items i frm ++ [Qba (itA items i)] ++ r, by simp only [List.append_assoc]⟩
end Go.Bm
/- the laws ContourEnds and ContourGrows, over the models -/
set_option maxRecDepth 100000
namespace Go.Bm

theorem sqm_le {a b : Int} (h0 : 0 <= a) (h : a <= b) : a * a <= b * b := Int.mul_self_le_mul_self h0 h
theorem above_grows {p q e f : Int} (hq : 0 <= q) (he : 0 <= e) (hf : e <= f) (h : aboveP p q e) : aboveP p q f := by
 have hs := sqm_le he hf
 unfold aboveP at *
 rw [show 4 * e * e = 4 * (e * e) from Int.mul_assoc ..] at h
 rw [show 4 * f * f = 4 * (f * f) from Int.mul_assoc ..]
 generalize e * e = s at *
 generalize f * f = t at *
 by_cases c : p - q - t <= 0
 ·exact .inl c
 ·right
  rcases h with h | h
  ·omega
  ·have h1 := sqm_le (a := p - q - t) (b := p - q - s) (by omega) (by omega)
   have h2 := Int.mul_le_mul_of_nonneg_right (show 4 * s <= 4 * t by omega) hq
   omega
theorem ray_grows {u w x y e f : Int} (he : 0 <= e) (hf : e <= f) (h : rayP u w x y e) : rayP u w x y f := by
 have hs := sqm_le he hf
 have h1 : 0 <= u * u := by rw [<- Int.natAbs_mul_self]; omega
 have h2 : 0 <= w * w := by rw [<- Int.natAbs_mul_self]; omega
 refine ⟨h.1, Int.le_trans h.2 (Int.mul_le_mul_of_nonneg_right hs ?_)⟩
 unfold sq2; omega
theorem sq2_nn (u w : Int) : 0 <= sq2 u w := by
 have h1 : 0 <= u * u := by rw [<- Int.natAbs_mul_self]; omega
 have h2 : 0 <= w * w := by rw [<- Int.natAbs_mul_self]; omega
 unfold sq2; omega
theorem onLine_grows {a b p : Pt} {e f : Int} (he : 0 <= e) (hf : e <= f) (h : onLine a b p e) : onLine a b p f := by
 have hs := sqm_le he hf
 unfold onLine at *
 split
 ·rename_i c; rw [if_pos c] at h; omega
 ·rename_i c
  rw [if_neg c] at h
  split
  ·rename_i c2; rw [if_pos c2] at h; omega
  ·rename_i c2
   rw [if_neg c2] at h
   refine Int.le_trans (Int.mul_le_mul_of_nonneg_right ?_ ?_) h
   ·omega
   ·unfold dotP
    have h1 : 0 <= (subP b a).x * (subP b a).x := by rw [<- Int.natAbs_mul_self]; omega
    have h2 : 0 <= (subP b a).y * (subP b a).y := by rw [<- Int.natAbs_mul_self]; omega
    have h3 : 0 <= (subP b a).z * (subP b a).z := by rw [<- Int.natAbs_mul_self]; omega
    omega
theorem onItem_grows {it : Itm} {q : Pt} {e f : Int} (he : 0 <= e) (hf : e <= f) (h : Qks it q e) : Qks it q f := by
 unfold Qks at *
 refine ⟨h.1, ?_⟩
 have h2 := h.2
 by_cases h3 : it.kind = 3
 ·rw [if_pos h3] at *
  unfold onArcP at *
  obtain ⟨a1, a2, a3, a4, a5⟩ := h2
  refine ⟨above_grows (sq2_nn _ _) he hf a1, above_grows ?_ he hf a2, by omega, by omega, ?_⟩
  ·have := sq2_nn (pU it (fine it.fr)) (pW it (fine it.fr))
   omega
  ·rcases a5 with a5 | a5 | a5 | a5
   ·exact .inl a5
   ·exact .inr (.inl a5)
   ·exact .inr (.inr (.inl (ray_grows he hf a5)))
   ·exact .inr (.inr (.inr (ray_grows he hf a5)))
 ·rw [if_neg h3] at *
  exact onLine_grows he hf h2

theorem row_at (items : List Itm) (i : Nat) (h : i < items.length) : nth [] (items.map itmR) i = itmR items[i] := nth_map _ _ _ _ h
theorem a_OnItems {MO : List AC -> Option (List AC)} {items : List Itm} {q : Pt} {e : Int} (hO : ∀ it ∈ items, ∃ v, MO (itmR it ++ [I q.x, I q.y, I q.z, I e]) = some [B v] /\ (v = true ↔ Qks it q e)) (hl : items.length <= 1000) :
  ∃ v, Qnb MO (Qb1 (Qe4 MO)) [.view kItm (items.map itmR), I q.x, I q.y, I q.z, I e] = some [B v] /\ (v = true ↔ ∃ it ∈ items, Qks it q e) := by
 have key : ∀ i : Nat, (i <= items.length /\ ∀ j (h : j < items.length), j < i -> ¬ Qks items[j] q e) -> ∃ o, Qb1 (Qe4 MO) [I e, .view kItm (items.map itmR), I items.length, I i, I q.x, I q.y, I q.z] = some o /\ o.1 ≠ 0 /\
   ((o = (1, [B true]) /\ ∃ it ∈ items, Qks it q e) \/ (o = (2, []) /\ ¬ ∃ it ∈ items, Qks it q e)) := by
  refine loop_nat (S := Nat) (fun i => [I e, .view kItm (items.map itmR), I items.length, I i, I q.x, I q.y, I q.z]) _ (fun i => items.length - i) _ ?_
  rintro i ⟨hi, hno⟩
  rw [st_contour_OnItems_2_eq]
  simp only [go_sem, Int.toNat_natCast, List.length_map]
  by_cases c : i < items.length
  case neg =>
   rw [if_neg (by omega)]
   refine .inr ⟨_, rfl, by simp, .inr ⟨rfl, ?_⟩⟩
   rintro ⟨it, hit, h⟩
   obtain ⟨j, hj, rfl⟩ := List.mem_iff_getElem.1 hit
   exact hno j hj (by omega) h
  rw [if_pos (by omega), if_pos (by omega)]
  have hm : items[i] ∈ items := List.getElem_mem c
  obtain ⟨v1, e1, h1⟩ := hO _ hm
  have hr := row_at items i c
  simp only [itmR, List.cons_append, List.nil_append] at e1 hr
  simp only [hr, go_sem, e1]
  by_cases hv : v1 = true
  ·rw [if_pos hv]
   exact .inr ⟨_, rfl, by simp, .inl ⟨rfl, _, hm, h1.1 hv⟩⟩
  ·rw [if_neg hv, Qab (by omega)]
   refine .inl ⟨i + 1, rfl, ⟨by omega, fun j hj hji => ?_⟩, by omega⟩
   by_cases hj2 : j = i
   ·subst hj2; exact fun h => hv (h1.2 h)
   ·exact hno j hj (by omega)
 obtain ⟨o, h1, h2, h3⟩ := key 0 ⟨by omega, fun j _ h => by omega⟩
 rw [mf_contour_OnItems_eq]
 simp only [List.length_map]
 have h1' : Qb1 (Qe4 MO) [I e, .view kItm (items.map itmR), I items.length, I 0, I q.x, I q.y, I q.z] = some o := h1
 rw [h1']
 rcases h3 with ⟨rfl, h⟩ | ⟨rfl, h⟩
 ·simp only [go_sem]; exact ⟨_, rfl, iff_of_true rfl h⟩
 ·simp only [go_sem]; exact ⟨_, rfl, iff_of_false (by simp) h⟩
theorem s_OnItems {items : List Itm} {q : Pt} (hq : bd 33554432 q) {e : Int} (he : 0 <= e /\ e <= 32000) (hl : items.length <= 1000) :
  ∃ v, Qfg [.view kItm (items.map itmR), I q.x, I q.y, I q.z, I e] = some [B v] /\ (v = true ↔ ∃ it ∈ items, Qks it q e) :=
 a_OnItems (fun it _ => s_contour_OnItem it hq he) hl
end Go.Bm
/- every segment of a path belongs to a motion; every point of the path is near it -/
set_option maxRecDepth 100000
namespace Go.Bm
open Classical

def gsegs (items : List Itm) (W : Int) : Pt -> List Sgm -> Prop
 | _, [] => True
 | a, g :: l => (∃ it ∈ items, MotOK it W /\ GoodSeg it W a g.to) /\ gsegs items W g.to l
theorem gsegs_snoc {items : List Itm} {W : Int} {g : Sgm} : ∀ {a : Pt} {l : List Sgm}, gsegs items W a l -> (∃ it ∈ items, MotOK it W /\ GoodSeg it W (endOf a l) g.to) -> gsegs items W a (l ++ [g])
 | _, [], _, h => ⟨h, trivial⟩
 | _, _ :: _, h1, h2 => ⟨h1.1, gsegs_snoc h1.2 h2⟩
theorem fold_good {items : List Itm} {W item feed lead : Int} {it : Itm} {a : Pt} (hit : it ∈ items) (hm : MotOK it W) : ∀ (pts : List Pt) (p : Pt) (s : List Sgm × Int × Pt), prs (GoodSeg it W) p pts -> s.2.2 = p -> gsegs items W a s.1 -> endOf a s.1 = p ->
  gsegs items W a (pts.foldl (Qfv item feed lead) s).1 /\ endOf a (pts.foldl (Qfv item feed lead) s).1 = (pts.foldl (Qfv item feed lead) s).2.2
 | [], p, s, _, h1, h2, h3 => ⟨h2, by show endOf a s.1 = s.2.2; rw [h1]; exact h3⟩
 | q :: pts, p, s, h, h1, h2, h3 => by
  rw [List.foldl_cons]
  unfold Qfv
  by_cases c : q = s.2.2
  ·rw [if_pos c]
   exact fold_good hit hm pts q s h.2 c.symm h2 (by rw [h3, c, h1])
  ·rw [if_neg c]
   refine fold_good hit hm pts q _ h.2 rfl (gsegs_snoc h2 ⟨it, hit, hm, ?_⟩) (endOf_snoc _ _ _)
   rw [h3]
   exact h.1
theorem link_at : ∀ {l : List Itm} {p : Pt}, Link p l -> ∀ i, i < l.length -> motI (itA l i) -> (itA l i).fr = lastL p (l.take i)
 | [], _, _, i, hi, _ => by simp at hi
 | it :: l, p, h, 0, _, hm => by
  unfold Link at h
  rw [if_pos (show motI it from hm)] at h
  exact h.1
 | it :: l, p, h, i + 1, hi, hm => by
  have e : itA (it :: l) (i + 1) = itA l i := by simp [itA]
  rw [e] at hm ⊢
  rw [List.take_succ_cons]
  unfold Link at h
  unfold lastL
  by_cases c : motI it
  ·rw [if_pos c] at h ⊢; exact link_at h.2 i (by simpa using hi) hm
  ·rw [if_neg c] at h ⊢; exact link_at h i (by simpa using hi) hm
theorem last_next {items : List Itm} {p : Pt} {i : Nat} (h : i < items.length) : lastL p (items.take (i + 1)) = if motI (itA items i) then (itA items i).to else lastL p (items.take i) := by
 rw [List.take_succ_eq_append_getElem h, Qig, <- itA_get h]
theorem last_out {items : List Itm} {p : Pt} {i : Nat} : ∀ k, i + k <= items.length -> (∀ j, i <= j -> j < i + k -> (itA items j).kind = 10) -> lastL p (items.take (i + k)) = lastL p (items.take i)
 | 0, _, _ => rfl
 | k + 1, h, h10 => by
  have := last_next (p := p) (show i + k < items.length by omega)
  rw [show i + (k + 1) = i + k + 1 by omega, this, if_neg (fun c : motI _ => by have := c.2; have := h10 (i + k) (by omega) (by omega); omega)]
  exact last_out k (by omega) fun j a b => h10 j a (by omega)
structure PInv (items : List Itm) (p0 : Pt) (W : Int) (i : Nat) (s : BSt) : Prop where
 segs : s.begun = true -> gsegs items W s.start s.segs /\ endOf s.start s.segs = s.at_
 stand : s.begun = true -> (s.frm = -1 /\ s.at_ = fine (lastL p0 (items.take i))) \/ (∃ f k : Nat, s.frm = f /\ f < i /\ Qiw items f = k /\ i <= k /\ s.at_ = midPt (Qko items f k) /\ (itA items f).to = lastL p0 (items.take i))
 none : s.begun = false -> s.frm = -1 /\ s.segs = []
theorem sm_motI {it : Itm} (h : smI it) : motI it := ⟨by have := h.1; omega, by have := h.1; omega⟩
theorem soft_to {items : List Itm} {p0 : Pt} {W : Int} (hl : Link p0 items) (hall : ∀ j < items.length, motI (itA items j) -> MotOK (itA items j) W) {i : Nat} (hi : i < items.length) (hm : motI (itA items i)) : ∀ k : Nat, Qiw items i = k -> MotOK (itA items k) W /\ (itA items k).fr = (itA items i).to := by
 intro k hk
 rcases softK_spec items i with h | ⟨-, -, k', h1, h2, h3, h4, h5⟩
 ·omega
 ·have e : k' = k := by omega
  subst e
  refine ⟨hall _ h3 (sm_motI h4), ?_⟩
  rw [link_at hl k' h3 (sm_motI h4)]
  have h6 := last_out (items := items) (p := p0) (i := i + 1) (k' - (i + 1)) (by omega) fun j a b => h5 j (by omega) (by omega)
  rw [show i + 1 + (k' - (i + 1)) = k' by omega] at h6
  rw [h6, last_next hi, if_pos hm]
theorem step_inv {items : List Itm} {p0 : Pt} {W : Int} (hl : Link p0 items) (hall : ∀ j < items.length, motI (itA items j) -> MotOK (itA items j) W) {i : Nat} (hi : i < items.length) {s : BSt} (h : PInv items p0 W i s) : PInv items p0 W (i + 1) (bStep items i s) := by
 have hln := last_next (p := p0) hi
 unfold bStep
 by_cases hm : motI (itA items i)
 ·rw [if_pos hm] at hln ⊢
  have hmo := hall i hi hm
  have hfr := link_at hl i hi hm
  -- where the path stands
  have hst : (if s.begun = true then s.at_ else fine (itA items i).fr) = firstP items i s.frm /\ (∀ f : Nat, s.frm = f -> MotOK (itA items f) W /\ (itA items i).fr = (itA items f).to) := by
   by_cases hb : s.begun = true
   ·rw [if_pos hb]
    rcases h.stand hb with ⟨h1, h2⟩ | ⟨f, k, h1, h2, h3, h4, h5, h6⟩
    ·refine ⟨?_, fun f hf => by omega⟩
     unfold firstP
     rw [h2, h1, if_neg (fun c => by omega), hfr]
    ·rcases softK_spec items f with g | ⟨g1, -, k', g2, g3, g4, g5, g6⟩
     ·omega
     ·have e : k' = k := by omega
      subst e
      have e2 : k' = i := by
       by_cases c : i < k'
       ·have := g6 i (by omega) c; have := hm.2; omega
       ·omega
      subst e2
      refine ⟨?_, fun f' hf' => ?_⟩
      ·unfold firstP
       rw [h5, h1, if_pos ⟨by omega, g5⟩, Int.toNat_natCast]
      ·have : f' = f := by omega
       subst this
       exact ⟨hall f' (by omega) (sm_motI g1), by rw [hfr, h6]⟩
   ·rw [if_neg hb]
    have := (h.none (by simpa using hb)).1
    refine ⟨?_, fun f hf => by omega⟩
    unfold firstP
    rw [this, if_neg (fun c => by omega)]
  obtain ⟨rest, hp, hprs⟩ := points_good hmo hst.2 (soft_to hl hall hi hm)
  have hsegs : gsegs items W (if s.begun = true then s.start else fine (itA items i).fr) (motS items i s).1 /\ endOf (if s.begun = true then s.start else fine (itA items i).fr) (motS items i s).1 = (motS items i s).2.2 := by
   unfold motS
   rw [hp, hst.1, List.foldl_cons]
   have e : Qfv i (rate (itA items i) s.speed) (leadI (itA items i)) (s.segs, s.len, firstP items i s.frm) (firstP items i s.frm) = (s.segs, s.len, firstP items i s.frm) := if_pos rfl
   rw [e]
   refine fold_good (itA_mem hi) hmo rest _ _ hprs rfl ?_ ?_
   ·by_cases hb : s.begun = true
    ·rw [if_pos hb]; exact (h.segs hb).1
    ·rw [(h.none (by simpa using hb)).2]; trivial
   ·by_cases hb : s.begun = true
    ·rw [if_pos hb]
     have := hst.1
     rw [if_pos hb] at this
     rw [<- this]; exact (h.segs hb).2
    ·have := hst.1
     rw [if_neg hb] at this
     rw [(h.none (by simpa using hb)).2, if_neg hb]; exact this
  refine ⟨fun _ => hsegs, fun _ => ?_, fun hb => by cases hb⟩
  simp only
  by_cases c : 0 <= Qiw items i
  ·right
   obtain ⟨l, hl2⟩ := points_soft (frm := s.frm) c
   rcases softK_spec items i with g | ⟨-, -, k, g2, g3, -⟩
   ·omega
   ·refine ⟨i, k, by rw [if_pos c], by omega, g2, by omega, ?_, by rw [hln]⟩
    unfold motS
    rw [hl2, fold_last, g2, Int.toNat_natCast]
  ·left
   obtain ⟨l, hl2⟩ := points_last (frm := s.frm) hmo.valid c
   refine ⟨by rw [if_neg c], ?_⟩
   unfold motS
   rw [hl2, fold_last, hln]
 ·rw [if_neg hm] at hln ⊢
  refine ⟨h.segs, fun hb => ?_, h.none⟩
  simp only
  rw [hln]
  rcases h.stand hb with g | ⟨f, k, h1, h2, h3, h4, h5, h6⟩
  ·exact .inl g
  ·refine .inr ⟨f, k, h1, by omega, h3, ?_, h5, h6⟩
   rcases softK_spec items f with g | ⟨-, -, k', g2, -, -, g5, -⟩
   ·omega
   ·have e : k' = k := by omega
    subst e
    by_cases c : k' = i
    ·subst c; exact absurd (sm_motI g5) hm
    ·omega
theorem build_inv {items : List Itm} {p0 : Pt} {W : Int} (hl : Link p0 items) (hall : ∀ j < items.length, motI (itA items j) -> MotOK (itA items j) W) : ∀ i, i <= items.length -> PInv items p0 W i (Qbi items i)
 | 0, _ => ⟨fun h => (by cases h), fun h => (by cases h), fun _ => ⟨rfl, rfl⟩⟩
 | i + 1, hi => step_inv hl hall (by omega) (build_inv hl hall i (by omega))
theorem seg_on {it : Itm} {W : Int} {a p : Pt} {L s : Int} (hW : 0 <= W) (hm : MotOK it W) (h : GoodSeg it W a p) (hL : 0 < L) (hs : 0 <= s /\ s <= L) {q : Pt}
  (hq : q = ⟨a.x + near ((p.x - a.x) * s) L, a.y + near ((p.y - a.y) * s) L, a.z + near ((p.z - a.z) * s) L⟩) (h7 : 7 <= W + 3) : Qks it q (W + 3) := by
 have rx := near_rho (s := (p.x - a.x) * s) hL
 have ry := near_rho (s := (p.y - a.y) * s) hL
 have rz := near_rho (s := (p.z - a.z) * s) hL
 have qx : q.x - a.x = near ((p.x - a.x) * s) L := by rw [hq]; simp only; omega
 have qy : q.y - a.y = near ((p.y - a.y) * s) L := by rw [hq]; simp only; omega
 have qz : q.z - a.z = near ((p.z - a.z) * s) L := by rw [hq]; simp only; omega
 rw [<- qx] at rx
 rw [<- qy] at ry
 rw [<- qz] at rz
 refine ⟨hm.valid, ?_⟩
 rcases h with ⟨h3, m, k, k', g1, g2⟩ | ⟨h3, x, y, hxy, rfl, rfl⟩
 ·rw [if_neg h3]
  exact near_onLine (Qku (by omega) (near_mix hW g1 g2 hL hs rx ry rz) (by omega))
 ·rw [if_pos h3]
  obtain ⟨hp, hd, R0, R1, he, hmo⟩ := hm.arc h3
  have c1 : ∀ s : Spk, plU it.plane (chPt it s) = plU it.plane (fine it.ce) + s.u := fun s => by unfold chPt; rw [(pl_sp hp).1]
  have c2 : ∀ s : Spk, plW it.plane (chPt it s) = plW it.plane (fine it.ce) + s.w := fun s => by unfold chPt; rw [(pl_sp hp).2.1]
  have c3 : ∀ s : Spk, plH it.plane (chPt it s) = s.h := fun s => by unfold chPt; rw [(pl_sp hp).2.2]
  have key : (-L <= 2 * (L * (plU it.plane q - plU it.plane (chPt it x)) - (plU it.plane (chPt it y) - plU it.plane (chPt it x)) * s) /\ 2 * (L * (plU it.plane q - plU it.plane (chPt it x)) - (plU it.plane (chPt it y) - plU it.plane (chPt it x)) * s) <= L) /\
    (-L <= 2 * (L * (plW it.plane q - plW it.plane (chPt it x)) - (plW it.plane (chPt it y) - plW it.plane (chPt it x)) * s) /\ 2 * (L * (plW it.plane q - plW it.plane (chPt it x)) - (plW it.plane (chPt it y) - plW it.plane (chPt it x)) * s) <= L) /\
    (-L <= 2 * (L * (plH it.plane q - plH it.plane (chPt it x)) - (plH it.plane (chPt it y) - plH it.plane (chPt it x)) * s) /\ 2 * (L * (plH it.plane q - plH it.plane (chPt it x)) - (plH it.plane (chPt it y) - plH it.plane (chPt it x)) * s) <= L) := by
   generalize chPt it x = u at *
   generalize chPt it y = v at *
   generalize it.plane = pl at *
   rcases hp with rfl | rfl | rfl
   ·exact ⟨rx, ry, rz⟩
   ·exact ⟨rz, rx, ry⟩
   ·exact ⟨ry, rz, rx⟩
  obtain ⟨k1, k2, k3⟩ := key
  rw [c1, c1] at k1
  rw [c2, c2] at k2
  rw [c3, c3] at k3
  have z1 : ∀ c u v : Int, c + v - (c + u) = v - u := fun c u v => by omega
  rw [z1] at k1 k2
  have hon := chord_onL hp hd he hmo hxy hL hs (q := q) (by unfold pU; rw [show plU it.plane q - plU it.plane (fine it.ce) - x.u = plU it.plane q - (plU it.plane (fine it.ce) + x.u) by omega]; exact k1) (by unfold pW; rw [show plW it.plane q - plW it.plane (fine it.ce) - x.w = plW it.plane q - (plW it.plane (fine it.ce) + x.w) by omega]; exact k2) k3
  have hitem : Qks it q 7 := ⟨hm.valid, by rw [if_pos h3]; exact hon⟩
  have := (onItem_grows (by omega) h7 hitem).2
  rw [if_pos h3] at this
  exact this
theorem seg_end {it : Itm} {W : Int} {a p : Pt} (hW : 0 <= W) (hm : MotOK it W) (h : GoodSeg it W a p) (h7 : 7 <= W + 3) : Qks it p (W + 3) := by
 refine seg_on (L := 1) (s := 1) hW hm h (by omega) (by omega) ?_ h7
 have e : ∀ u v : Int, u + near ((v - u) * 1) 1 = v := fun u v => by rw [near_mul (by omega)]; omega
 rw [e, e, e]
theorem at_good {items : List Itm} {W : Int} (hW : 0 <= W) (h7 : 7 <= W + 3) : ∀ {l : List Sgm} {a : Pt} {s : Int}, gsegs items W a l -> (∀ g ∈ l, 1 <= g.len) -> 0 <= s -> l ≠ [] -> ∃ it ∈ items, Qks it (atL a l s) (W + 3)
 | [], _, _, _, _, _, h => absurd rfl h
 | g :: l, a, s, h, hg, hs, _ => by
  obtain ⟨⟨it, hi, hm, hgd⟩, hrest⟩ := h
  have h1 := hg g (by simp)
  unfold atL
  by_cases c : s < g.len
  ·rw [if_pos c]
   exact ⟨it, hi, seg_on (L := g.len) (s := s) hW hm hgd (by omega) ⟨hs, by omega⟩ rfl h7⟩
  ·rw [if_neg c]
   cases l with
   | nil => exact ⟨it, hi, seg_end hW hm hgd h7⟩
   | cons g' l' => exact at_good hW h7 hrest (fun k hk => hg k (List.mem_cons_of_mem _ hk)) (by omega) (by simp)
end Go.Bm
/- the law ContourArc, over the models -/
set_option maxRecDepth 100000
namespace Go.Bm
open Classical

end Go.Bm
/- the law ContourChords, over the models -/
set_option maxRecDepth 100000
namespace Go.Bm
open Classical

end Go.Bm
/- the law ContourPath, over the models -/
set_option maxRecDepth 100000
namespace Go.Bm
open Classical

def mostL : List Itm -> Int -> Int
 | [], v => v
 | it :: l, v => mostL l (if motI it then mx v it.blend else v)
theorem mx_ge (a b : Int) : a <= mx a b /\ b <= mx a b := by unfold mx; split <;> omega
theorem most_ge : ∀ {l : List Itm} {v : Int}, v <= mostL l v /\ ∀ it ∈ l, motI it -> it.blend <= mostL l v
 | [], v => ⟨Int.le_refl _, by simp⟩
 | k :: l, v => by
  obtain ⟨h1, h2⟩ := most_ge (l := l) (v := if motI k then mx v k.blend else v)
  have hm := mx_ge v k.blend
  unfold mostL
  refine ⟨?_, fun it hi hmo => ?_⟩
  ·by_cases c : motI k
   ·rw [if_pos c] at h1 ⊢; omega
   ·rw [if_neg c] at h1 ⊢; omega
  ·rcases List.mem_cons.1 hi with rfl | hi
   ·rw [if_pos hmo] at h1 ⊢; omega
   ·exact h2 it hi hmo
theorem most_le {C : Int} : ∀ {l : List Itm} {v : Int}, v <= C -> (∀ it ∈ l, motI it -> it.blend <= C) -> mostL l v <= C
 | [], _, h, _ => h
 | k :: l, v, h, hb => by
  unfold mostL
  refine most_le ?_ fun it hi => hb it (by simp [hi])
  split
  ·have := hb k (by simp) (by assumption)
   unfold mx; split <;> omega
  ·exact h
theorem s_moves (it : Itm) : Qd6 (itmR it) = some [B (decide (motI it))] := by
 unfold Qd6
 simp only [itmR]
 rw [mf_contour_moves_eq]
 simp only [go_sem]
 unfold motI
 by_cases h1 : it.kind >= 1
 ·rw [if_pos h1]
  by_cases h2 : it.kind <= 6
  ·rw [decide_eq_true h2, decide_eq_true (show 1 <= it.kind /\ it.kind <= 6 from ⟨h1, h2⟩)]
  ·rw [decide_eq_false h2, decide_eq_false (show ¬ (1 <= it.kind /\ it.kind <= 6) from fun h => h2 h.2)]
 ·rw [if_neg h1, decide_eq_false (show ¬ (1 <= it.kind /\ it.kind <= 6) from fun h => h1 h.1)]
theorem l_slack {MM : List AC -> Option (List AC)} {items : List Itm} (hM : ∀ it, MM (itmR it) = some [B (decide (motI it))]) (hl : items.length <= 1000000) : ∀ (k i : Nat) (v : Int), i + k = items.length ->
  Qb1 (Qiv MM) [I v, .view kItm (items.map itmR), I items.length, I i] = some (1, [I (mostL (items.drop i) v)])
 | 0, i, v, hi => by
  rw [List.drop_of_length_le (by omega)]
  refine Qcj ?_ (by simp)
  rw [st_contour_Slack_3_eq, Qcl (by omega)]
  rfl
 | k + 1, i, v, hi => by
  have hlt : i < items.length := by omega
  have hr := Qlu hlt
  have hin : (0 : Int) <= (i : Int) /\ (i : Int) < (items.length : Int) := by omega
  have hw : IntKind.i64.wrap ((i : Int) + 1) = ((i + 1 : Nat) : Int) := by rw [Qab (by omega)]; omega
  have hm := hM (itA items i)
  rw [drop_itA hlt]
  have hst : Qiv MM [I v, .view kItm (items.map itmR), I items.length, I i] = some (0, [I (if motI (itA items i) then mx v (itA items i).blend else v), .view kItm (items.map itmR), I items.length, I (i + 1 : Nat)]) := by
   generalize itA items i = it at *
   simp only [itmR] at hr hm
   rw [st_contour_Slack_3_eq]
   simp only [go_sem, List.length_map, Int.toNat_natCast, hr, if_pos hin, hm, hw]
   rw [if_pos (by omega)]
   by_cases c : motI it
   ·rw [if_pos c, if_pos c]
   ·rw [if_neg c, if_neg c]
  rw [Qb8 hst]
  exact l_slack hM hl k (i + 1) _ (by omega)
theorem s_slack {items : List Itm} (hl : items.length <= 1000) (hb : mostL items 0 <= 1000) : Qfu [.view kItm (items.map itmR)] = some [I (7 + 16 * mostL items 0)] := by
 have h := l_slack (MM := Qd6) (items := items) s_moves (by omega) items.length 0 0 (by omega)
 rw [List.drop_zero] at h
 have hge := (most_ge (l := items) (v := 0)).1
 have h' : Qj2 [I 0, .view kItm (items.map itmR), I items.length, I 0] = some (1, [I (mostL items 0)]) := h
 unfold Qfu
 generalize Qj2 = N at *
 generalize Qd6 = M at *
 rw [mf_contour_Slack_eq]
 simp only [go_sem, List.length_map, h', Qab (x := 16 * mostL items 0) (by omega), Qab (x := 7 + 16 * mostL items 0) (by omega)]
theorem mid_in24 {u v L s : Int} {B : Nat} (hu : u.natAbs <= B) (hv : v.natAbs <= B) (hL : 0 < L) (hs : 0 <= s /\ s <= L) : (u + near ((v - u) * s) L).natAbs <= B := by
 have hr := near_rho (s := (v - u) * s) hL
 generalize near ((v - u) * s) L = r at *
 have k1 : (L - s) * u <= (L - s) * B := Int.mul_le_mul_of_nonneg_left (by omega) (by omega)
 have k2 : s * v <= s * B := Int.mul_le_mul_of_nonneg_left (by omega) hs.1
 have k3 : (L - s) * -B <= (L - s) * u := Int.mul_le_mul_of_nonneg_left (by omega) (by omega)
 have k4 : s * -B <= s * v := Int.mul_le_mul_of_nonneg_left (by omega) hs.1
 have e1 : (L - s) * u + s * v = L * u + (v - u) * s := by grind
 have e2 : (L - s) * (B : Int) + s * B = L * B := by grind
 have e3 : (L - s) * -(B : Int) + s * -B = -(L * B) := by grind
 have up : L * (u + r) < L * (B + 1) := by
  have e : L * (u + r) = L * u + L * r := by grind
  have e' : L * ((B : Int) + 1) = L * B + L := by grind
  omega
 have lo : L * (-(B : Int) - 1) < L * (u + r) := by
  have e : L * (u + r) = L * u + L * r := by grind
  have e' : L * (-(B : Int) - 1) = -(L * B) - L := by grind
  omega
 have := Int.lt_of_mul_lt_mul_left up (by omega)
 have := Int.lt_of_mul_lt_mul_left lo (by omega)
 omega
theorem at_in24 {item : Int} : ∀ {l : List Sgm} {a : Pt} {item s : Int}, bd B24 a -> segsOK item a l -> (∀ g ∈ l, 1 <= g.len) -> 0 <= s -> bd B24 (atL a l s)
 | [], a, _, _, ha, _, _, _ => ha
 | g :: l, a, _, s, ha, h, hg, hs => by
  obtain ⟨⟨h1, -⟩, h2⟩ := h
  have h3 := hg g (by simp)
  unfold atL
  by_cases c : s < g.len
  ·rw [if_pos c]
   obtain ⟨a1, a2, a3⟩ := ha
   obtain ⟨b1, b2, b3⟩ := h1
   exact ⟨mid_in24 a1 b1 (by omega) ⟨hs, by omega⟩, mid_in24 a2 b2 (by omega) ⟨hs, by omega⟩, mid_in24 a3 b3 (by omega) ⟨hs, by omega⟩⟩
  ·rw [if_neg c]
   exact at_in24 (item := item) h1 h2 (fun k hk => hg k (List.mem_cons_of_mem _ hk)) (by omega)
theorem l_ContourPath {MO MS MA ML MB MI MD MW : List AC -> Option (List AC)} {items : List Itm} {p : Pth} {n sl : Int} (hn : 0 <= n /\ n <= 1000000000000000000) (hA : ∀ s : Int, 0 <= s -> s <= 2000000000000000000 -> ∃ q : Pt, MA (pthR p ++ [I s]) = some (ptR q) /\ MO [.view kItm (items.map itmR), I q.x, I q.y, I q.z, I sl] = some [B true])
  (hS : MS [.view kItm (items.map itmR)] = some [I sl]) : ∀ (k : Nat) (i : Int), n <= i -> i + k = n + 60 ->
  Qb1 (Qei MO MS MA ML MB MI MD MW) ([.view kItm (items.map itmR), I n, I i] ++ pthR p) = some (2, [])
 | 0, i, h0, hi => by
  refine Qcj ?_ (by simp)
  simp only [pthR, List.cons_append, List.nil_append]
  rw [Qhw, Qab (by omega), Qcl (by omega)]
 | k + 1, i, h0, hi => by
  obtain ⟨q, h1, h2⟩ := hA i (by omega) (by omega)
  have hst : Qei MO MS MA ML MB MI MD MW ([.view kItm (items.map itmR), I n, I i] ++ pthR p) = some (0, [.view kItm (items.map itmR), I n, I (i + 1)] ++ pthR p) := by
   simp only [pthR, ptR, List.cons_append, List.nil_append] at h1 ⊢
   rw [Qhw, Qab (x := n + 60) (by omega)]
   simp only [go_sem, h1, hS, h2]
   rw [if_pos (by omega), if_neg (by simp), Qab (by omega)]
  rw [Qb8 hst]
  exact l_ContourPath hn hA hS k (i + 1) (by omega) (by omega)
theorem a_ContourPath {MO MS MA ML MB MI MD MW : List AC -> Option (List AC)} {N : List AC -> Option (Nat × List AC)} {l : List (List AC)} {most s m : Int} {items : List Itm} {p : Pth} (hW : MW [] = some [B true]) (hD : MD [I most, I 9] = some [I m]) (hI : MI [.view Qax l, I m, B false] = some [.view kItm (items.map itmR)])
  (hB : MB [.view kItm (items.map itmR)] = some (pthR p ++ [I 0])) (hL : ML (pthR p) = some [I (Qfo p.segs)]) (hn : 0 <= Qfo p.segs /\ Qfo p.segs <= 263886834032640) (hD2 : MD [I s, I (Qfo p.segs + 1)] = some [I (s % (Qfo p.segs + 1))])
  (hN : p.segs ≠ [] -> N ([.view kItm (items.map itmR), I (s % (Qfo p.segs + 1)), I (s % (Qfo p.segs + 1))] ++ pthR p) = some (2, [])) : Qhj MO MS MA ML MB MI MD MW N [.view Qax l, I most, I s] = some [B true] := by
 have hw : IntKind.i64.wrap (Qfo p.segs + 1) = Qfo p.segs + 1 := Qab (by omega)
 rw [mf_cnclaw41_ContourPath_eq]
 simp only [pthR, List.cons_append, List.nil_append] at *
 by_cases hne : p.segs = []
 ·have c0 : (p.segs.length : Int) = 0 := by rw [hne]; rfl
  simp only [go_sem, hW, hD, hI, hB, List.length_map, if_pos c0]
  simp
 ·have hN := hN hne
  have hne0 : ¬ (p.segs.length : Int) = 0 := by have := List.length_pos_iff.2 hne; omega
  simp only [go_sem, hW, hD, hI, hB, List.length_map, if_neg hne0, hL, hw, hD2, hN]
  simp
theorem s_ContourPath {l : List (List AC)} (hl : Src l) {most s : Int} (h1 : i64 most) (h2 : i64 s) : m_cnclaw41_ContourPath [.view Qax l, I most, I s] = some [B true] := by
 have h9 : 0 <= most % 9 /\ most % 9 < 9 := ⟨Int.emod_nonneg _ (by omega), Int.emod_lt_of_pos _ (by omega)⟩
 obtain ⟨p0, items, g1, g2, g3, -⟩ := s_Items hl (most := most % 9) (by omega) false
 have hlen : items.length <= 15 := by omega
 have g4 := items_mono g2 (show 4084 <= 40004 by omega)
 have hc := items_check (by omega) g4 (by omega)
 have hright := (check_right hc).2
 have hg := goodP_of hlen hc
 have hpb := s_path_Build hlen
 rw [if_pos hc] at hpb
 have hval := path_valid g4 hlen
 have hn := sum_path hg
 -- the items
 have hblend : ∀ it ∈ items, motI it -> 0 <= it.blend /\ it.blend <= 9 := fun it hi hm => by
  rcases g2.made it hi with ⟨-, hmd, -⟩ | h
  ·exact hmd.blend
  ·have := h.kind; have := hm.2; omega
 have hmost : mostL items 0 <= 9 := most_le (by omega) fun it hi hm => (hblend it hi hm).2
 obtain ⟨hge0, hge⟩ := most_ge (l := items) (v := 0)
 have hall : ∀ j < items.length, motI (itA items j) -> MotOK (itA items j) (16 * mostL items 0 + 4) := fun j hj hm => by
  have hd := (right_mot (hright j hj) hm).1
  have hi := itA_mem hj
  rcases g2.made _ hi with ⟨-, hmd, -, f1, f2⟩ | h
  ·refine ⟨hd.1, Qau f1 (by omega), Qau f2 (by omega), ⟨hmd.blend.1, by have := hge _ hi hm; omega⟩, fun h3 => ?_⟩
   have ha := hmd.arc h3
   obtain ⟨R0, R1, he⟩ := arc_ends ha hd.1
   exact ⟨ha.plane, ha.dir, R0, R1, he, arc_more ha (by omega) he⟩
  ·have := h.kind; have := hm.2; omega
 have hinv := build_inv g4.link hall items.length (Nat.le_refl _)
 have hsl := s_slack (items := items) (by omega) (by omega)
 refine a_ContourPath m_cnclaw41_awake_eq (s_cncmill_Mod h1 (by omega)) g1 hpb (s_ref_Length hg.ok) hn (s_cncmill_Mod h2 (by omega)) fun hne => ?_
 have hb : (Qbi items items.length).begun = true := by
  by_cases hb : (Qbi items items.length).begun = true
  ·exact hb
  ·exact absurd (hinv.none (by simpa using hb)).2 hne
 have hgs : gsegs items (16 * mostL items 0 + 4) (Qjq items).start (Qjq items).segs := (hinv.segs hb).1
 have hlens : ∀ g ∈ (Qjq items).segs, 1 <= g.len := fun g hgm => (hg.ok.seg g hgm).1
 have m0 := Int.emod_nonneg s (show Qfo (Qjq items).segs + 1 ≠ 0 by omega)
 have m1 := Int.emod_lt_of_pos s (show 0 < Qfo (Qjq items).segs + 1 by omega)
 refine l_ContourPath (n := s % (Qfo (Qjq items).segs + 1)) (sl := 7 + 16 * mostL items 0) (by omega) (fun x hx0 hx1 => ?_) hsl 60 _ (Int.le_refl _) (by omega)
 have hat : atP (Qjq items) x = atL (Qjq items).start (Qjq items).segs x := by unfold atP; rw [Int.max_eq_left hx0]
 refine ⟨_, s_path_At hg (by unfold i64; omega), ?_⟩
 rw [hat]
 obtain ⟨it, hi, hon⟩ := at_good (items := items) (W := 16 * mostL items 0 + 4) (by omega) (by omega) hgs hlens hx0 hne
 have hbd := at_in24 (item := 0) hval.1 hval.2.1 hlens hx0
 obtain ⟨v, e1, e2⟩ := s_OnItems (items := items) (q := atL (Qjq items).start (Qjq items).segs x) (Qau hbd (by decide)) (e := 7 + 16 * mostL items 0) (by omega) (by omega)
 rw [e1]
 have : v = true := e2.2 ⟨it, hi, by rw [show 7 + 16 * mostL items 0 = 16 * mostL items 0 + 4 + 3 by omega]; exact hon⟩
 rw [this]
end Go.Bm
/- what a law's arguments are known to be -/
set_option maxRecDepth 100000
namespace Go.Bm

theorem okR_int {r : List AC} (h : okR Qax r) : i64 (Qav (nth .dead r 0)) := by
 match r, h with
 | [], h => exact h.elim
 | a :: _, h => exact okC_int h.1
theorem okR_src {r : List AC} (h : okR [Kd.sl Qax] r) : Src (rowsOf (nth .dead r 0)) := by
 match r, h with
 | [], h => exact h.elim
 | a :: _, h =>
  have h1 := h.1
  unfold okC at h1
  refine ⟨?_, fun c hc => okR_int (h1.2 c hc).1⟩
  have h2 := h1.1
  simp only [maxLen] at h2
  show (rowsOf a).length <= _
  omega
end Go.Bm
