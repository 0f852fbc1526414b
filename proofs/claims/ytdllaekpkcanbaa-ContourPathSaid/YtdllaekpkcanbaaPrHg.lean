/- laid together -/
import Derived.Test.YtdllaekpkcanbaaPrPt
set_option linter.unusedVariables false
set_option linter.unusedSimpArgs false
/- the reference's path of a list of items -/
set_option maxRecDepth 100000
namespace Go.Bm
open Classical

def Qgo (it : Itm) : Prop := it.kind < 1 \/ it.kind > 14 \/ (motI it /\ (¬ Qfa it \/ (it.kind ≠ 1 /\ (it.feed < 1 \/ it.feed > 60000000)) \/ it.blend < 0 \/ it.blend > 1000)) \/ (¬ motI it /\ it.kind = 8 /\ (it.n < 3 \/ it.n > 5 \/ it.speed < 0 \/ it.speed > 30000))
noncomputable def chkF (items : List Itm) : Nat -> Nat -> Int -> Int
 | 0, _, _ => 0
 | k + 1, i, last => if Qgo (itA items i) then 1 else if motI (itA items i) then (if 0 <= last /\ (itA items last.toNat).to ≠ (itA items i).fr then 13 else chkF items k (i + 1) i) else chkF items k (i + 1) last
noncomputable def checkP (items : List Itm) : Int := if items.length > 20000 then 10 else chkF items items.length 0 (-1)
theorem chk_right {items : List Itm} : ∀ (k i : Nat) (last : Int), i + k = items.length -> chkF items k i last = 0 -> ∀ j, i <= j -> j < items.length -> ¬ Qgo (itA items j)
 | 0, i, last, hi, _, j, h1, h2 => by omega
 | k + 1, i, last, hi, h, j, h1, h2 => by
  unfold chkF at h
  split at h
  ·omega
  ·rename_i c
   by_cases hij : j = i
   ·subst hij; exact c
   ·split at h
    ·split at h
     ·omega
     ·exact chk_right k (i + 1) _ (by omega) h j (by omega) h2
    ·exact chk_right k (i + 1) _ (by omega) h j (by omega) h2
theorem check_right {items : List Itm} (h : checkP items = 0) : items.length <= 20000 /\ ∀ j, j < items.length -> ¬ Qgo (itA items j) := by
 unfold checkP at h
 split at h
 ·omega
 ·exact ⟨by omega, fun j hj => chk_right _ 0 _ (by omega) h j (by omega) hj⟩
theorem right_mot {it : Itm} (h : ¬ Qgo it) (hm : motI it) : drawn it /\ (it.kind = 1 \/ 1 <= it.feed /\ it.feed <= 60000000) := by
 unfold Qgo at h
 have hv : Qfa it := by
  by_cases c : Qfa it
  ·exact c
  ·exact absurd (.inr (.inr (.inl ⟨hm, .inl c⟩))) h
 have h2 : ¬ ((it.kind ≠ 1 /\ (it.feed < 1 \/ it.feed > 60000000)) \/ it.blend < 0 \/ it.blend > 1000) := fun c => h (.inr (.inr (.inl ⟨hm, .inr c⟩)))
 exact ⟨⟨hv, by omega, by omega⟩, by omega⟩
theorem right_sp {it : Itm} (h : ¬ Qgo it) (h8 : it.kind = 8) : 0 <= it.speed /\ it.speed <= 30000 := by
 unfold Qgo at h
 have hm : ¬ motI it := fun c => by have := c.2; omega
 have h2 : ¬ (it.n < 3 \/ it.n > 5 \/ it.speed < 0 \/ it.speed > 30000) := fun c => h (.inr (.inr (.inr ⟨hm, h8, c⟩)))
 omega

noncomputable def Qfv (item feed lead : Int) (s : List Sgm × Int × Pt) (q : Pt) : List Sgm × Int × Pt := if q = s.2.2 then s else (s.1 ++ [⟨q, lenP s.2.2 q, item, feed, lead⟩], s.2.1 + lenP s.2.2 q, q)
theorem fold_bd {item feed lead : Int} : ∀ (pts : List Pt) (s : List Sgm × Int × Pt), (∀ p ∈ pts, bd 67108864 p) -> bd 67108864 s.2.2 -> 0 <= s.2.1 ->
  (pts.foldl (Qfv item feed lead) s).1.length <= s.1.length + pts.length /\ s.2.1 <= (pts.foldl (Qfv item feed lead) s).2.1 /\ (pts.foldl (Qfv item feed lead) s).2.1 <= s.2.1 + pts.length * 268435456 /\ bd 67108864 (pts.foldl (Qfv item feed lead) s).2.2
 | [], s, _, h2, h3 => ⟨by simp, by simp, by simp, h2⟩
 | q :: pts, s, h1, h2, h3 => by
  rw [List.foldl_cons]
  have hq := h1 q (by simp)
  have hl := len_bd h2 hq
  have hs : Qfv item feed lead s q = s \/ Qfv item feed lead s q = (s.1 ++ [⟨q, lenP s.2.2 q, item, feed, lead⟩], s.2.1 + lenP s.2.2 q, q) := by unfold Qfv; split <;> simp
  rcases hs with hs | hs
  ·rw [hs]
   obtain ⟨a, b, c, d⟩ := fold_bd pts s (fun p hp => h1 p (by simp [hp])) h2 h3 (item := item) (feed := feed) (lead := lead)
   exact ⟨by simp; omega, b, by simp; omega, d⟩
  ·rw [hs]
   obtain ⟨a, b, c, d⟩ := fold_bd pts (s.1 ++ [⟨q, lenP s.2.2 q, item, feed, lead⟩], s.2.1 + lenP s.2.2 q, q) (fun p hp => h1 p (by simp [hp])) hq (by simp only; omega) (item := item) (feed := feed) (lead := lead)
   simp only [List.length_append, List.length_cons, List.length_nil] at a b c
   exact ⟨by simp; omega, by omega, by simp; omega, d⟩

structure BSt where
 segs : List Sgm
 marks : List Mrk
 (len speed frm : Int)
 begun : Bool
 (start at_ : Pt)
def leadI (it : Itm) : Int := if syI it then mn (it.feed * 16) 16777216 else 0
def spdI (it : Itm) (s : Int) : Int := if it.kind = 8 /\ (it.n = 3 \/ it.n = 4) then it.speed else s
noncomputable def motS (items : List Itm) (i : Nat) (s : BSt) : List Sgm × Int × Pt :=
 (Qdg items i s.frm).foldl (Qfv i (rate (itA items i) s.speed) (leadI (itA items i))) (s.segs, s.len, if s.begun = true then s.at_ else fine (itA items i).fr)
noncomputable def bStep (items : List Itm) (i : Nat) (s : BSt) : BSt :=
 if motI (itA items i) then
  ⟨(motS items i s).1, s.marks ++ [⟨(motS items i s).2.1, kindK items i, i⟩], (motS items i s).2.1, s.speed, if 0 <= Qiw items i then i else -1, true, if s.begun = true then s.start else fine (itA items i).fr, (motS items i s).2.2⟩
 else ⟨s.segs, s.marks ++ [⟨s.len, otherK (itA items i), i⟩], s.len, spdI (itA items i) s.speed, s.frm, s.begun, s.start, s.at_⟩
noncomputable def Qbi (items : List Itm) : Nat -> BSt
 | 0 => ⟨[], [], 0, 0, -1, false, ⟨0, 0, 0⟩, ⟨0, 0, 0⟩⟩
 | i + 1 => bStep items i (Qbi items i)
structure BOK (items : List Itm) (i : Nat) (s : BSt) : Prop where
 segs : s.segs.length <= i * 65537
 marks : s.marks.length = i
 len : 0 <= s.len /\ s.len <= i * 65537 * 268435456
 speed : 0 <= s.speed /\ s.speed <= 30000
 frm : frmOK items i s.frm
 at_ : s.begun = true -> bd 67108864 s.at_
theorem bStep_ok {items : List Itm} {i : Nat} {s : BSt} (hi : i < items.length) (hright : ∀ j < items.length, ¬ Qgo (itA items j)) (h : BOK items i s) : BOK items (i + 1) (bStep items i s) := by
 have hall : ∀ k < items.length, motI (itA items k) -> drawn (itA items k) := fun k hk hm => (right_mot (hright k hk) hm).1
 unfold bStep
 by_cases hm : motI (itA items i)
 ·rw [if_pos hm]
  have hd := hall i hi hm
  obtain ⟨p1, p2⟩ := points_bd hd h.frm hall
  have ha : bd 67108864 (if s.begun = true then s.at_ else fine (itA items i).fr) := by
   by_cases hb : s.begun = true
   ·rw [if_pos hb]; exact h.at_ hb
   ·rw [if_neg hb]; exact Qau (Qg6 hd.1.2.1) (by decide)
  obtain ⟨a1, a2, a3, a4⟩ := fold_bd (item := i) (feed := rate (itA items i) s.speed) (lead := leadI (itA items i)) (Qdg items i s.frm) (s.segs, s.len, if s.begun = true then s.at_ else fine (itA items i).fr) p1 ha h.len.1
  have h1 := h.segs
  have h2 := h.len
  have e1 : (i + 1) * 65537 = i * 65537 + 65537 := by rw [Nat.succ_mul]
  refine ⟨?_, ?_, ?_, h.speed, ?_, fun _ => a4⟩
  ·simp only at a1
   show (motS items i s).1.length <= _
   unfold motS
   omega
  ·show (s.marks ++ [_]).length = _
   rw [List.length_append, h.marks]; rfl
  ·show 0 <= (motS items i s).2.1 /\ (motS items i s).2.1 <= _
   unfold motS
   simp only at a2 a3
   have e2 : (((i + 1 : Nat) : Int)) * 65537 * 268435456 = (i : Int) * 65537 * 268435456 + 65537 * 268435456 := by
    rw [Int.natCast_add, Int.natCast_one, Int.add_mul, Int.add_mul]; rfl
   constructor
   ·omega
   ·rw [e2]; omega
  ·show frmOK items (i + 1) (if 0 <= Qiw items i then (i : Int) else -1)
   split
   ·exact .inr ⟨i, rfl, hi, hd⟩
   ·exact .inl rfl
 ·rw [if_neg hm]
  have h2 := h.len
  have h3 := h.segs
  have e1 : (i + 1) * 65537 = i * 65537 + 65537 := by rw [Nat.succ_mul]
  refine ⟨by show s.segs.length <= _; rw [e1]; exact Nat.le_trans h3 (Nat.le_add_right _ _), ?_, ?_, ?_, h.frm, h.at_⟩
  ·show (s.marks ++ [_]).length = _
   rw [List.length_append, h.marks]; rfl
  ·have e2 : (((i + 1 : Nat) : Int)) * 65537 * 268435456 = (i : Int) * 65537 * 268435456 + 65537 * 268435456 := by
    rw [Int.natCast_add, Int.natCast_one, Int.add_mul, Int.add_mul]; rfl
   show 0 <= s.len /\ s.len <= _
   rw [e2]; omega
  ·show 0 <= spdI (itA items i) s.speed /\ spdI (itA items i) s.speed <= 30000
   unfold spdI
   split
   ·rename_i h8; exact right_sp (hright i hi) h8.1
   ·exact h.speed
theorem init_ok (items : List Itm) : BOK items 0 ⟨[], [], 0, 0, -1, false, ⟨0, 0, 0⟩, ⟨0, 0, 0⟩⟩ := by
 refine ⟨Nat.zero_le _, List.length_nil, ⟨Int.le_refl _, ?_⟩, ⟨Int.le_refl _, ?_⟩, .inl rfl, fun h => by cases h⟩
 ·show (0 : Int) <= ((0 : Nat) : Int) * 65537 * 268435456
  rw [show ((0 : Nat) : Int) = 0 from rfl, Int.zero_mul, Int.zero_mul]
  exact Int.le_refl _
 ·show (0 : Int) <= 30000
  omega
theorem buildN_ok {items : List Itm} (hright : ∀ j < items.length, ¬ Qgo (itA items j)) : ∀ i, i <= items.length -> BOK items i (Qbi items i)
 | 0, _ => by rw [Qbi]; exact init_ok items
 | i + 1, hi => by rw [Qbi]; exact bStep_ok (by omega) hright (buildN_ok hright i (by omega))
end Go.Bm
/- the maker's lists of items of all kinds -/
set_option maxRecDepth 100000
namespace Go.Bm
open Classical

structure Oth (it : Itm) : Prop where
 kind : 7 <= it.kind /\ it.kind <= 14
 spin : it.kind = 8 -> 3 <= it.n /\ it.n <= 5 /\ 0 <= it.speed /\ it.speed <= 4000
 dwell : it.kind = 7 -> 0 <= it.n /\ it.n <= 4
 out : it.kind = 10 -> 0 <= it.n /\ it.n <= 15
def Link : Pt -> List Itm -> Prop
 | _, [] => True
 | p, it :: l => if motI it then it.fr = p /\ Link it.to l else Link p l
def lastL : Pt -> List Itm -> Pt
 | p, [] => p
 | p, it :: l => if motI it then lastL it.to l else lastL p l
theorem link_snoc {it : Itm} : ∀ {l : List Itm} {p : Pt}, Link p l -> (motI it -> it.fr = lastL p l) -> Link p (l ++ [it])
 | [], p, _, h => by
  simp only [List.nil_append, Link]
  split
  ·rename_i c; exact ⟨h c, trivial⟩
  ·trivial
 | a :: l, p, h1, h => by
  simp only [List.cons_append, Link] at h1 ⊢
  unfold lastL at h
  by_cases c : motI a
  ·rw [if_pos c] at h1 h ⊢
   exact ⟨h1.1, link_snoc h1.2 h⟩
  ·rw [if_neg c] at h1 h ⊢
   exact link_snoc h1 h
theorem Qig {it : Itm} : ∀ {l : List Itm} {p : Pt}, lastL p (l ++ [it]) = if motI it then it.to else lastL p l
 | [], p => by simp only [List.nil_append, lastL]
 | a :: l, p => by
  simp only [List.cons_append, lastL]
  by_cases c : motI a
  ·rw [if_pos c, if_pos c]; exact Qig
  ·rw [if_neg c, if_neg c]; exact Qig
structure Items (A : Nat) (p : Pt) (l : List Itm) : Prop where
 link : Link p l
 made : ∀ it ∈ l, (motI it /\ Made it /\ blank it /\ bd A it.fr /\ bd A it.to) \/ Oth it
theorem items_snoc {A : Nat} {p : Pt} {l : List Itm} {it : Itm} (h : Items A p l) (h1 : motI it -> it.fr = lastL p l) (h2 : (motI it /\ Made it /\ blank it /\ bd A it.fr /\ bd A it.to) \/ Oth it) : Items A p (l ++ [it]) := by
 refine ⟨link_snoc h.link h1, fun i hi => ?_⟩
 simp only [List.mem_append, List.mem_singleton] at hi
 rcases hi with hi | rfl
 ·exact h.made i hi
 ·exact h2
theorem oth_mot {it : Itm} (h : Oth it) : ¬ motI it := fun g => by have := h.kind; have := g.2; omega

theorem a_other {MN : List AC -> Option (List AC)} {l : List (List AC)} (hN : NextOK l MN) (k : Nat) :
  ∃ (it : Itm) (k' : Nat), mf_cncmill_other MN [.view Qax l, I k] = some (itmR it ++ [.view Qax l, I k']) /\ k <= k' /\ Oth it := by
 rw [mf_cncmill_other_eq]
 obtain ⟨v0, k0, e0, a0, b0, c0, -, -⟩ := hN k (n := 8) (by omega)
 obtain ⟨v1, k1, e1, a1, b1, c1, -, -⟩ := hN k0 (n := 16) (by omega)
 obtain ⟨v2, k2, e2, a2, b2, c2, -, -⟩ := hN k1 (n := 2) (by omega)
 obtain ⟨v3, k3, e3, a3, b3, c3, -, -⟩ := hN k0 (n := 5) (by omega)
 obtain ⟨v4, k4, e4, a4, b4, c4, -, -⟩ := hN k0 (n := 3) (by omega)
 obtain ⟨v5, k5, e5, a5, b5, c5, -, -⟩ := hN k4 (n := 4000) (by omega)
 simp only [go_sem, e0, e1, e2, e3, e4, e5]
 rw [Qab (x := 3 + v4) (by omega)]
 have fin : ∀ (kd n sp : Int) (on : Bool) (k' : Nat), k <= k' -> Oth ⟨kd, 0, ⟨0, 0, 0⟩, ⟨0, 0, 0⟩, 0, ⟨0, 0, 0⟩, 0, false, 0, false, 0, 0, 0, n, sp, on⟩ ->
   ∃ (it : Itm) (k'' : Nat), some [I kd, I 0, I 0, I 0, I 0, I 0, I 0, I 0, I 0, I 0, I 0, I 0, I 0, B false, I 0, B false, I 0, I 0, I 0, I n, I sp, B on, .view Qax l, I k'] = some (itmR it ++ [.view Qax l, I k'']) /\ k <= k'' /\ Oth it := by
  intro kd n sp on k' h1 h2
  exact ⟨_, k', rfl, h1, h2⟩
 by_cases c0 : v0 = 0
 ·rw [if_pos c0]; exact fin _ _ _ _ _ (by omega) ⟨by simp only; omega, by simp, by simp, fun _ => by simp only; omega⟩
 rw [if_neg c0]
 by_cases c1 : v0 = 1
 ·rw [if_pos c1]; exact fin _ _ _ _ _ (by omega) ⟨by simp only; omega, by simp, by simp, fun _ => by simp only; omega⟩
 rw [if_neg c1]
 by_cases c2 : v0 = 2
 ·rw [if_pos c2]; exact fin _ _ _ _ _ (by omega) ⟨by simp only; omega, by simp, fun _ => by simp only; omega, by simp⟩
 rw [if_neg c2]
 by_cases c3 : v0 = 3
 ·rw [if_pos c3]; exact fin _ _ _ _ _ (by omega) ⟨by simp only; omega, fun _ => by simp only; omega, by simp, by simp⟩
 rw [if_neg c3]
 by_cases c4 : v0 = 4
 ·rw [if_pos c4]; exact fin _ _ _ _ _ (by omega) ⟨by simp only; omega, by simp, by simp, by simp⟩
 rw [if_neg c4]
 by_cases c5 : v0 = 5
 ·rw [if_pos c5]; exact fin _ _ _ _ _ (by omega) ⟨by simp only; omega, by simp, by simp, by simp⟩
 rw [if_neg c5]
 by_cases c6 : v0 = 6
 ·rw [if_pos c6]; exact fin _ _ _ _ _ (by omega) ⟨by simp only; omega, by simp, by simp, by simp⟩
 rw [if_neg c6]
 exact fin _ _ _ _ _ (by omega) ⟨by simp only; omega, by simp, by simp, by simp⟩
theorem s_other_item {l : List (List AC)} (hl : Src l) (k : Nat) : ∃ (it : Itm) (k' : Nat), Qfl [.view Qax l, I k] = some (itmR it ++ [.view Qax l, I k']) /\ k <= k' /\ Oth it := a_other (nextOK hl) k
theorem kind_at8 {v : Int} (h : 0 <= v /\ v < 8) : ∃ x, Qav (nth .dead (nth [] [[I 2], [I 2], [I 2], [I 3], [I 1], [I 6], [I 5], [I 4]] v.toNat) 0) = x /\ 1 <= x /\ x <= 6 := by
 have hc : v = 0 \/ v = 1 \/ v = 2 \/ v = 3 \/ v = 4 \/ v = 5 \/ v = 6 \/ v = 7 := by omega
 rcases hc with rfl | rfl | rfl | rfl | rfl | rfl | rfl | rfl <;> exact ⟨_, rfl, by decide⟩
theorem a_ItemsL {MM MO ML MN MF : List AC -> Option (List AC)} {l : List (List AC)} (hN : NextOK l MN)
  (hM : ∀ {p : Pt}, bd 100000000 p -> ∀ {kind : Int}, (1 <= kind /\ kind <= 6) -> ∀ k : Nat,
   ∃ (it : Itm) (k' : Nat), MM [I p.x, I p.y, I p.z, I kind, .view Qax l, I k] = some (itmR it ++ [.view Qax l, I k']) /\ k <= k' /\ it.fr = p /\ it.kind = kind /\ Made it /\ blank it)
  (hO : ∀ k : Nat, ∃ (it : Itm) (k' : Nat), MO [.view Qax l, I k] = some (itmR it ++ [.view Qax l, I k']) /\ k <= k' /\ Oth it)
  (hL : ∀ k : Nat, ML [.view Qax l, I k] = some [B (decide (k < l.length)), .view Qax l, I k]) {most : Int} {fin : Bool} (hm : most <= 100) {p : Pt} :
  ∀ s : List Itm × Nat, (Items (4 + 40 * 102) p s.1 /\ bd (4 + 40 * s.1.length) (lastL p s.1) /\ (s.1 = [] \/ s.1.length <= most + 1)) ->
   ∃ o, Qb1 (Qnk MM MO ML MN MF) [.view kItm (s.1.map itmR), I most, B fin, I (lastL p s.1).x, I (lastL p s.1).y, I (lastL p s.1).z, .view Qax l, I s.2] = some o /\ o.1 ≠ 0 /\
    ∃ items, o = (1, [.view kItm (items.map itmR), B fin]) /\ Items (4 + 40 * 102) p items /\ (items = [] \/ items.length <= most + 1) := by
 refine loop_nat (S := List Itm × Nat) (fun s => [.view kItm (s.1.map itmR), I most, B fin, I (lastL p s.1).x, I (lastL p s.1).y, I (lastL p s.1).z, .view Qax l, I s.2]) _ (fun s => l.length - s.2) _ ?_
 rintro ⟨items, k⟩ ⟨h1, h2, h3⟩
 simp only at h1 h2 h3
 simp only
 rw [st_cncmill_Items_4_eq]
 simp only [go_sem, hL, List.length_map]
 by_cases c1 : (items.length : Int) < most
 case neg =>
  rw [if_neg c1]
  exact .inr ⟨_, rfl, by simp, items, rfl, h1, h3⟩
 rw [if_pos c1]
 by_cases c2 : k < l.length
 case neg =>
  rw [if_neg (by simpa using c2)]
  exact .inr ⟨_, rfl, by simp, items, rfl, h1, h3⟩
 rw [if_pos (by simpa using c2)]
 obtain ⟨v, k1, e1, a1, b1, d1, d2, -⟩ := hN k (n := 12) (by omega)
 have d3 := d2 c2
 subst d3
 simp only [go_sem, e1]
 have hmost : items.length < 100 := by omega
 by_cases c3 : v < 4
 ·rw [if_pos c3]
  obtain ⟨it, k2, e2, g1, g2⟩ := hO (k + 1)
  have hnm := oth_mot g2
  simp only [go_sem, e2, itmR, List.cons_append, List.nil_append]
  rw [if_pos (by simp; omega)]
  left
  refine ⟨(items ++ [it], k2), ?_, ⟨items_snoc h1 (fun h => absurd h hnm) (.inr g2), ?_, .inr ?_⟩, ?_⟩
  ·simp only [Qig, if_neg hnm, List.map_append, List.map_cons, List.map_nil, itmR]
  ·simp only [Qig, if_neg hnm, List.length_append, List.length_singleton]
   exact Qau h2 (by omega)
  ·simp only [List.length_append, List.length_singleton]; omega
  ·simp only; omega
 ·rw [if_neg c3, Qab (by omega)]
  obtain ⟨x, hx, hx1, hx2⟩ := kind_at8 (v := v - 4) (by omega)
  have hpb : bd 100000000 (lastL p items) := Qau h2 (by omega)
  obtain ⟨it, k2, e2, g1, g2, g3, g4, g5⟩ := hM hpb (kind := x) (by omega) (k + 1)
  have hmo : motI it := by unfold motI; omega
  have hb2 := made_bd g4 (by rw [g2]; exact h2)
  rw [if_pos (by simp; omega)]
  simp only [go_sem, hx, e2, itmR, List.cons_append, List.nil_append]
  have hmade : (motI it /\ Made it /\ blank it /\ bd (4 + 40 * 102) it.fr /\ bd (4 + 40 * 102) it.to) \/ Oth it := .inl ⟨hmo, g4, g5, by rw [g2]; exact Qau h2 (by omega), Qau hb2 (by omega)⟩
  by_cases c5 : it.kind = 5
  ·rw [if_pos c5]
   obtain ⟨v3, k3, e3, a3, b3, d3, -, -⟩ := hN k2 (n := 2) (by omega)
   obtain ⟨v4, k4, e4, a4, b4, d4, -, -⟩ := hN k3 (n := 3000) (by omega)
   simp only [go_sem, e3, e4]
   rw [Qab (x := 3 + v3) (by omega), Qab (x := 200 + v4) (by omega)]
   rw [if_pos (by simp; omega), if_pos (by simp; omega)]
   have hsp : Oth ⟨8, 0, ⟨0, 0, 0⟩, ⟨0, 0, 0⟩, 0, ⟨0, 0, 0⟩, 0, false, 0, false, 0, 0, 0, 3 + v3, 200 + v4, false⟩ := ⟨by simp only; omega, fun _ => by simp only; omega, by simp, by simp⟩
   have hnm := oth_mot hsp
   have i1 := items_snoc h1 (fun h => absurd h hnm) (.inr hsp)
   left
   refine ⟨(items ++ [⟨8, 0, ⟨0, 0, 0⟩, ⟨0, 0, 0⟩, 0, ⟨0, 0, 0⟩, 0, false, 0, false, 0, 0, 0, 3 + v3, 200 + v4, false⟩] ++ [it], k4), ?_, ⟨items_snoc i1 (fun _ => by rw [Qig, if_neg hnm]; exact g2) hmade, ?_, .inr ?_⟩, ?_⟩
   ·simp only [Qig, if_pos hmo, List.map_append, List.map_cons, List.map_nil, itmR]
   ·simp only [Qig, if_pos hmo, List.length_append, List.length_singleton]
    exact Qau hb2 (by omega)
   ·simp only [List.length_append, List.length_singleton]; omega
   ·simp only; omega
  ·rw [if_neg c5, if_pos (by simp; omega)]
   left
   refine ⟨(items ++ [it], k2), ?_, ⟨items_snoc h1 (fun _ => g2) hmade, ?_, .inr ?_⟩, ?_⟩
   ·simp only [Qig, if_pos hmo, List.map_append, List.map_cons, List.map_nil, itmR]
   ·simp only [Qig, if_pos hmo, List.length_append, List.length_singleton]
    exact Qau hb2 (by omega)
   ·simp only [List.length_append, List.length_singleton]; omega
   ·simp only; omega
def endI : Itm := ⟨14, 0, ⟨0, 0, 0⟩, ⟨0, 0, 0⟩, 0, ⟨0, 0, 0⟩, 0, false, 0, false, 0, 0, 0, 0, 0, false⟩
theorem end_oth : Oth endI := ⟨by simp [endI], by simp [endI], by simp [endI], by simp [endI]⟩
theorem a_Items {MM MO ML MN MF : List AC -> Option (List AC)} {N : List AC -> Option (Nat × List AC)} {l : List (List AC)} (hN : NextOK l MN) (hF : MF [.view Qax l] = some [.view Qax l, I 0]) {most : Int} {fin : Bool} (hm : most <= 100)
  (hL : ∀ (p : Pt) (k : Nat), bd 4 p -> ∃ items, N [.view kItm [], I most, B fin, I p.x, I p.y, I p.z, .view Qax l, I k] = some (1, [.view kItm (items.map itmR), B fin]) /\ Items 4084 p items /\ (items = [] \/ items.length <= most + 1)) :
  ∃ (p : Pt) (items : List Itm), mf_cncmill_Items MM MO ML MN MF N [.view Qax l, I most, B fin] = some [.view kItm ((items ++ if fin = true then [endI] else []).map itmR)] /\ Items 4084 p items /\ (items = [] \/ items.length <= most + 1) := by
 obtain ⟨v1, k1, e1, a1, b1, c1, -, -⟩ := hN 0 (n := 9) (by omega)
 obtain ⟨v2, k2, e2, a2, b2, c2, -, -⟩ := hN k1 (n := 9) (by omega)
 obtain ⟨v3, k3, e3, a3, b3, c3, -, -⟩ := hN k2 (n := 9) (by omega)
 obtain ⟨items, h1, h2, h3⟩ := hL ⟨v1 - 4, v2 - 4, v3 - 4⟩ k3 ⟨by simp only; omega, by simp only; omega, by simp only; omega⟩
 rw [mf_cncmill_Items_eq]
 have e1' : MN [I 9, .view Qax l, I 0] = some [I v1, .view Qax l, I k1] := e1
 simp only [go_sem, hF, e1', e2, e3]
 rw [Qab (x := v1 - 4) (by omega), Qab (x := v2 - 4) (by omega), Qab (x := v3 - 4) (by omega)]
 simp only [h1, go_sem]
 refine ⟨_, items, ?_, h2, h3⟩
 have hlen : items.length <= 101 := by
  rcases h3 with h3 | h3
  ·rw [h3]; simp
  ·omega
 cases fin
 ·simp
 ·rw [if_pos rfl, if_pos (by simp; omega), if_pos rfl, List.map_append]
  rfl
theorem s_Items {l : List (List AC)} (hl : Src l) {most : Int} (hm : most <= 100) (fin : Bool) :
  ∃ (p : Pt) (items : List Itm), Qg2 [.view Qax l, I most, B fin] = some [.view kItm (items.map itmR)] /\ Items 4084 p items /\ (items.length : Int) <= max most (-1) + 2 /\ (fin = true -> ∃ l, items = l ++ [endI] /\ (l.length : Int) <= max most (-1) + 1) /\ (fin = false -> (items.length : Int) <= max most (-1) + 1) := by
 obtain ⟨p, items, h1, h2, h3⟩ := a_Items (MM := Qex) (MO := Qfl) (ML := Qcn) (N := l_cncmill_Items_4) (fin := fin) (nextOK hl) (s_From l) hm fun p k hp => by
  obtain ⟨o, h1, -, items, rfl, h3, h4⟩ := a_ItemsL (MF := Qe9) (fin := fin) (nextOK hl) (fun hp _ hk k => s_motion hl hp hk k) (fun k => s_other_item hl k) (s_Left l) hm (p := p) ([], k) ⟨⟨trivial, by simp⟩, hp, .inl rfl⟩
  exact ⟨items, h1, h3, h4⟩
 have hle : (items.length : Int) <= max most (-1) + 1 := by
  rcases h3 with h3 | h3
  ·rw [h3]; simp; omega
  ·omega
 refine ⟨p, _, h1, ?_, ?_, fun hf => ?_, fun hf => ?_⟩
 ·cases fin
  ·simpa using h2
  ·simp only [if_true]
   exact items_snoc h2 (fun h => absurd h (oth_mot end_oth)) (.inr end_oth)
 ·cases fin
  ·simp; omega
  ·simp; omega
 ·subst hf; exact ⟨items, by simp, hle⟩
 ·subst hf; simpa using hle

theorem link_chk {A : Nat} {items : List Itm} (hA : A <= 1000000) (hm : ∀ it ∈ items, (motI it /\ Made it /\ blank it /\ bd A it.fr /\ bd A it.to) \/ Oth it) : ∀ (k i : Nat) (last : Int) (p : Pt), i + k = items.length -> Link p (items.drop i) -> (0 <= last -> (itA items last.toNat).to = p) -> chkF items k i last = 0
 | 0, _, _, _, _, _, _ => rfl
 | k + 1, i, last, p, hi, h, hp => by
  have hlt : i < items.length := by omega
  have hit := hm _ (itA_mem hlt)
  rw [drop_itA hlt] at h
  unfold Link at h
  unfold chkF
  have hw : ¬ Qgo (itA items i) := by
   rcases hit with ⟨h1, h2, h3, h4, h5⟩ | ho
   ·have hv := made_valid h2 (Qau h4 hA) (Qau h5 hA)
    have hf := h2.feed
    have hb := h2.blend
    have hk := h2.kind
    rintro (g | g | ⟨-, g | g | g | g⟩ | ⟨g, -⟩)
    ·omega
    ·omega
    ·exact g hv
    ·omega
    ·omega
    ·omega
    ·exact g h1
   ·have hk := ho.kind
    rintro (g | g | ⟨g, -⟩ | ⟨-, g1, g2⟩)
    ·omega
    ·omega
    ·exact oth_mot ho g
    ·have := ho.spin g1; omega
  rw [if_neg hw]
  by_cases c : motI (itA items i)
  ·rw [if_pos c] at h ⊢
   rw [if_neg (fun g => g.2 (by rw [hp g.1]; exact h.1.symm))]
   exact link_chk hA hm k (i + 1) i _ (by omega) h.2 (fun _ => by rw [Int.toNat_natCast])
  ·rw [if_neg c] at h ⊢
   exact link_chk hA hm k (i + 1) last p (by omega) h hp
theorem items_check {A : Nat} {p : Pt} {items : List Itm} (hA : A <= 1000000) (h : Items A p items) (hl : items.length <= 20000) : checkP items = 0 := by
 unfold checkP
 rw [if_neg (by omega)]
 exact link_chk hA h.made items.length 0 (-1) p (by omega) (by rw [List.drop_zero]; exact h.link) (fun h => by omega)
end Go.Bm
/- the vertices of an arc's chords lie on the arc -/
set_option maxRecDepth 100000
namespace Go.Bm
open Classical

theorem pluck (xu xw mu mw qu qw yu yw dir : Int) : (crs qu qw yu yw * dir) * (crs xu xw mu mw * dir) = (crs qu qw mu mw * dir) * (crs xu xw yu yw * dir) + (crs xu xw qu qw * dir) * (crs mu mw yu yw * dir) := by unfold crs; grind
theorem pluck2 (xu xw mu mw qu qw yu yw dir : Int) : (crs xu xw qu qw * dir) * (crs mu mw yu yw * dir) = (crs xu xw mu mw * dir) * (crs qu qw yu yw * dir) + (crs xu xw yu yw * dir) * (crs mu mw qu qw * dir) := by unfold crs; grind
theorem nn_of_mul {a b : Int} (hb : 0 < b) (h : 0 <= a * b) : 0 <= a := by
 by_cases c : 0 <= a
 ·exact c
 ·have := Int.mul_neg_of_neg_of_pos (show a < 0 by omega) hb
  omega
structure Btw (x y q : Spk) : Prop where
 sp : Sp q
 r : mn x.r y.r <= q.r /\ q.r <= mx x.r y.r
 h : mn x.h y.h <= q.h /\ q.h <= mx x.h y.h
theorem btw_right {x y : Spk} (hy : Sp y) : Btw x y y := ⟨hy, by unfold mn mx; split <;> split <;> omega, by unfold mn mx; split <;> split <;> omega⟩
theorem btw_left {x y : Spk} (hx : Sp x) : Btw x y x := ⟨hx, by unfold mn mx; split <;> split <;> omega, by unfold mn mx; split <;> split <;> omega⟩
theorem hf_btw (a b : Int) : mn a b <= hf a b /\ hf a b <= mx a b := by unfold hf mn mx; split <;> split <;> omega
theorem btw_l {x m y q : Spk} (hr : m.r = hf x.r y.r) (hh : m.h = hf x.h y.h) (h : Btw x m q) : Btw x y q := by
 have h1 := hf_btw x.r y.r
 have h2 := hf_btw x.h y.h
 rw [<- hr] at h1
 rw [<- hh] at h2
 obtain ⟨s, r, hq⟩ := h
 refine ⟨s, ?_, ?_⟩
 ·unfold mn mx at *; split at * <;> split at * <;> split at * <;> omega
 ·unfold mn mx at *; split at * <;> split at * <;> split at * <;> omega
theorem btw_r {x m y q : Spk} (hr : m.r = hf x.r y.r) (hh : m.h = hf x.h y.h) (h : Btw m y q) : Btw x y q := by
 have h1 := hf_btw x.r y.r
 have h2 := hf_btw x.h y.h
 rw [<- hr] at h1
 rw [<- hh] at h2
 obtain ⟨s, r, hq⟩ := h
 refine ⟨s, ?_, ?_⟩
 ·unfold mn mx at *; split at * <;> split at * <;> split at * <;> omega
 ·unfold mn mx at *; split at * <;> split at * <;> split at * <;> omega
theorem half_d {x m y : Spk} (hr : m.r = hf x.r y.r) (h : ((x.r - y.r).natAbs : Int) <= 64) : ((x.r - m.r).natAbs : Int) <= 33 /\ ((m.r - y.r).natAbs : Int) <= 33 := by
 rw [hr]; unfold hf; omega
theorem cone_in {dir : Int} (hd : dir = 1 \/ dir = -1) : ∀ (k : Nat) {x y : Spk}, Sp x -> Sp y -> 0 < crs x.u x.w y.u y.w * dir -> (((x.r - y.r).natAbs : Int) <= 33 \/ (((x.r - y.r).natAbs : Int) <= 64 /\ dt2 x.u x.w y.u y.w <= 0)) ->
  ∀ q ∈ pcsL dir k false x y, Btw x y q /\ 0 <= crs x.u x.w q.u q.w * dir /\ 0 <= crs q.u q.w y.u y.w * dir
 | 0, x, y, _, hy, hX, _, q, hq => by
  unfold pcsL at hq
  rw [List.mem_singleton] at hq
  subst hq
  exact ⟨btw_right hy, by omega, by unfold crs; grind⟩
 | k + 1, x, y, hx, hy, hX, hD, q, hq => by
  unfold pcsL at hq
  by_cases c : setS x y dir false
  ·rw [if_pos c, List.mem_singleton] at hq
   subst hq
   exact ⟨btw_right hy, by omega, by unfold crs; grind⟩
  ·rw [if_neg c] at hq
   have h64 : ((x.r - y.r).natAbs : Int) <= 64 := by rcases hD with h | h <;> omega
   have hm : midOK x y dir (midS x y dir false) := by
    by_cases hdt : dt2 x.u x.w y.u y.w <= 0
    ·exact mid_across hd hx hy h64 hdt
    ·have h33 := hD.resolve_right (fun h => hdt h.2)
     refine mid_along hd hx hy (by omega) hX h33 ?_
     have : ¬ sq2 (x.u - y.u) (x.w - y.w) <= 32 * mn x.r y.r - 64 := fun h => c ⟨rfl, hX, h⟩
     omega
   obtain ⟨m1, m2, m3, m4, m5⟩ := hm
   generalize midS x y dir false = m at *
   obtain ⟨d1, d2⟩ := half_d m2 h64
   rcases List.mem_append.1 hq with hq | hq
   ·obtain ⟨g1, g2, g3⟩ := cone_in hd k hx m1 m4 (.inl d1) q hq
    refine ⟨btw_l m2 m3 g1, g2, nn_of_mul m4 ?_⟩
    rw [pluck]
    have a1 := Int.mul_nonneg g3 (Int.le_of_lt hX)
    have a2 := Int.mul_nonneg g2 (Int.le_of_lt m5)
    omega
   ·obtain ⟨g1, g2, g3⟩ := cone_in hd k m1 hy m5 (.inl d2) q hq
    refine ⟨btw_r m2 m3 g1, nn_of_mul m5 ?_, g3⟩
    rw [pluck2]
    have a1 := Int.mul_nonneg (Int.le_of_lt m4) g3
    have a2 := Int.mul_nonneg (Int.le_of_lt hX) g2
    omega
theorem wide_in {dir : Int} (hd : dir = 1 \/ dir = -1) (k : Nat) {x y : Spk} (hx : Sp x) (hy : Sp y) (h64 : ((x.r - y.r).natAbs : Int) <= 64) (hdt : dt2 x.u x.w y.u y.w <= 0) :
  ∀ q ∈ pcsL dir (k + 1) false x y, Btw x y q /\ Ql2 x.u x.w y.u y.w q.u q.w dir := by
 intro q hq
 by_cases hX : 0 < crs x.u x.w y.u y.w * dir
 ·obtain ⟨g1, g2, g3⟩ := cone_in hd (k + 1) hx hy hX (.inr ⟨h64, hdt⟩) q hq
  refine ⟨g1, ?_⟩
  unfold Ql2
  rw [if_pos hX]
  exact ⟨g2, g3⟩
 ·unfold pcsL at hq
  rw [if_neg (fun c : setS x y dir false => hX c.2.1)] at hq
  obtain ⟨m1, m2, m3, m4, m5⟩ := mid_across hd hx hy h64 hdt
  generalize midS x y dir false = m at *
  obtain ⟨d1, d2⟩ := half_d m2 h64
  have key : Btw x y q /\ (0 <= crs x.u x.w q.u q.w * dir \/ 0 <= crs q.u q.w y.u y.w * dir) := by
   rcases List.mem_append.1 hq with hq | hq
   ·obtain ⟨g1, g2, g3⟩ := cone_in hd k hx m1 m4 (.inl d1) q hq
    exact ⟨btw_l m2 m3 g1, .inl g2⟩
   ·obtain ⟨g1, g2, g3⟩ := cone_in hd k m1 hy m5 (.inl d2) q hq
    exact ⟨btw_r m2 m3 g1, .inr g3⟩
  refine ⟨key.1, ?_⟩
  have k2 := key.2
  have e1 : crs y.u y.w q.u q.w = -crs q.u q.w y.u y.w := crs_swap _ _ _ _
  have e2 : crs q.u q.w x.u x.w = -crs x.u x.w q.u q.w := crs_swap _ _ _ _
  unfold Ql2
  rw [if_neg hX]
  by_cases c : crs x.u x.w y.u y.w * dir = 0 /\ dt2 x.u x.w y.u y.w < 0
  ·rw [if_pos c]
   rcases k2 with k2 | k2
   ·exact k2
   ·have c0 : crs x.u x.w y.u y.w = 0 := by have := c.1; rcases hd with rfl | rfl <;> omega
    have i2 := id_dot y.u y.w x.u x.w q.u q.w
    rw [crs_swap x.u x.w y.u y.w, c0, e1, e2] at i2
    have hq2 : 0 < sq2 y.u y.w := by
     have := hy.norm.1
     have := hy.r
     have : 0 < (y.r - 1) * (y.r - 1) := Int.mul_pos (by omega) (by omega)
     omega
    have e3 : dt2 y.u y.w x.u x.w = dt2 x.u x.w y.u y.w := by unfold dt2; grind
    rw [e3] at i2
    refine nn_of_mul hq2 ?_
    have e4 : crs x.u x.w q.u q.w * dir * sq2 y.u y.w = -((crs q.u q.w y.u y.w * dir) * dt2 x.u x.w y.u y.w) := by
     have : crs x.u x.w q.u q.w * dir * sq2 y.u y.w = -(sq2 y.u y.w * -crs x.u x.w q.u q.w * dir) := by grind
     rw [this, <- i2]; grind
    rw [e4]
    have := Int.mul_nonpos_of_nonneg_of_nonpos k2 hdt
    omega
  ·rw [if_neg c]
   rcases k2 with k2 | k2
   ·right; rw [e2]; rw [Int.neg_mul]; omega
   ·left; rw [e1]; rw [Int.neg_mul]; omega
theorem near_exact {u R : Int} (hu : u.natAbs <= 100000000) (hR : 1 <= R /\ R <= 50000000) (hq : u * u <= R * R) : Qc1 u R (R * R) = u := by
 have hn : 0 < R * R := Int.mul_pos (by omega) (by omega)
 have hn2 : R * R <= 50000000 * 50000000 := Int.mul_self_le_mul_self (by omega) hR.2
 obtain ⟨j, e, h1, h2, h3⟩ := near_facts hu ⟨by omega, hR.2⟩ ⟨hn, by omega⟩ hq
 have k1 : (j : Int) <= u.natAbs := by
  rcases h1 with h1 | h1
  ·omega
  ·have : (2 * (j : Int) - 1) * R <= 2 * (u.natAbs * R) := by
    refine Qgp (Int.mul_nonneg (by omega) (Int.mul_nonneg (by omega) (by omega))) (Int.le_trans (Int.le_of_eq ?_) h1)
    grind
   have e3 : 2 * ((u.natAbs : Int) * R) = 2 * (u.natAbs : Int) * R := by grind
   rw [e3] at this
   have := Int.le_of_mul_le_mul_right this (by omega)
   omega
 have k2 : (u.natAbs : Int) <= j := by
  have : 2 * ((u.natAbs : Int) * R) <= (2 * (j : Int) + 1) * R := by
   refine Qgp (Int.mul_nonneg (by omega) (by omega)) (Int.le_trans h2 (Int.le_of_eq ?_))
   grind
  have e3 : 2 * ((u.natAbs : Int) * R) = 2 * (u.natAbs : Int) * R := by grind
  rw [e3] at this
  have := Int.le_of_mul_le_mul_right this (by omega)
  omega
 rw [e]
 split <;> omega
theorem full_in {dir : Int} (hd : dir = 1 \/ dir = -1) (k : Nat) {x y : Spk} (hx : Sp x) (hy : Sp y) (hu : y.u = x.u /\ y.w = x.w) (hr : y.r = x.r) (he : sq2 x.u x.w = x.r * x.r) :
  ∀ q ∈ pcsL dir (k + 2) true x y, Btw x y q := by
 intro q hq
 rw [pcsL] at hq
 rw [if_neg (fun c : setS x y dir true => by cases c.1)] at hq
 have hrx := hx.r
 have hpos : 0 < x.r * x.r := Int.mul_pos (by omega) (by omega)
 have h0 : ¬ (-x.u = 0 /\ -x.w = 0) := by
  rintro ⟨g1, g2⟩
  have a1 : x.u = 0 := by omega
  have a2 : x.w = 0 := by omega
  rw [a1, a2] at he
  unfold sq2 at he
  omega
 have hb := hx.ok
 obtain ⟨s1, s2⟩ := sp_mid hx hy (u := -x.u) (w := -x.w) (by have := hb.1; omega) (by have := hb.2.1; omega) h0
 have eN : sq2 (-x.u) (-x.w) = x.r * x.r := by rw [<- he]; unfold sq2; grind
 obtain ⟨q1, q2⟩ := sq2_sq (-x.u) (-x.w)
 rw [eN] at q1 q2
 have hhf : hf x.r y.r = x.r := by rw [hr]; unfold hf; omega
 have n1 := near_exact (u := -x.u) (R := x.r) (by have := hb.1; omega) ⟨by omega, hb.2.2.1.2⟩ q1
 have n2 := near_exact (u := -x.w) (R := x.r) (by have := hb.2.1; omega) ⟨by omega, hb.2.2.1.2⟩ q2
 rw [hhf, eN, n1, n2] at s2
 have eM : midS x y dir true = midOf x y (-x.u) (-x.w) := by
  unfold midS midD
  rw [if_pos rfl]
 rw [eM] at hq
 generalize midOf x y (-x.u) (-x.w) = m at *
 have mr : m.r = hf x.r y.r := by rw [s2, hhf]
 have mh : m.h = hf x.h y.h := by rw [s2]
 have hdt : dt2 x.u x.w m.u m.w <= 0 := by
  have : dt2 x.u x.w m.u m.w = -(x.r * x.r) := by rw [s2, <- he]; unfold dt2 sq2; grind
  omega
 have hdt2 : dt2 m.u m.w y.u y.w <= 0 := by
  have : dt2 m.u m.w y.u y.w = -(x.r * x.r) := by rw [s2, <- he, hu.1, hu.2]; unfold dt2 sq2; grind
  omega
 rcases List.mem_append.1 hq with hq | hq
 ·exact btw_l mr mh (wide_in hd k hx s1 (by rw [mr, hhf]; omega) hdt q hq).1
 ·exact btw_r mr mh (wide_in hd k s1 hy (by rw [mr, hhf, hr]; omega) hdt2 q hq).1
end Go.Bm
/- every vertex of the chords of an arc that the laws make lies on the arc, but for 2 -/
set_option maxRecDepth 100000
namespace Go.Bm
open Classical

theorem midR_sq {R : Int} (h : 0 < R) : midR (R * R) = R := by
 refine midR_of ⟨by omega, ?_, .inr ?_⟩
 ·have : R * (R + 1) = R * R + R := by grind
  omega
 ·have : (R - 1) * R = R * R - R := by grind
  omega
theorem rot_dot {r s k t : Int} (hr : 0 <= r) (hs : 0 <= s) (hk : 0 <= k /\ k <= 3) (ht : 1 <= t /\ t <= 3) : dt2 (rotU r k) (rotW r k) (rotU s (k + t)) (rotW s (k + t)) <= 0 := by
 have hp := Int.mul_nonneg hr hs
 have hk' : k = 0 \/ k = 1 \/ k = 2 \/ k = 3 := by omega
 have ht' : t = 1 \/ t = 2 \/ t = 3 := by omega
 rcases hk' with rfl | rfl | rfl | rfl <;> rcases ht' with rfl | rfl | rfl <;> simp [dt2, rotU, rotW, Int.mul_neg, Int.neg_mul] <;> omega
structure ArcEnds (it : Itm) (R0 R1 : Int) : Prop where
 a : Sp (endS it it.fr)
 b : Sp (endS it it.to)
 ra : (endS it it.fr).r = R0 /\ sq2 (endS it it.fr).u (endS it it.fr).w = R0 * R0
 rb : (endS it it.to).r = R1 /\ sq2 (endS it it.to).u (endS it it.to).w = R1 * R1
 le : 128 <= R0 /\ R0 <= R1 /\ R1 <= R0 + 64
 full : it.full = true -> (endS it it.to).u = (endS it it.fr).u /\ (endS it it.to).w = (endS it it.fr).w /\ R1 = R0
 part : it.full = false -> dt2 (endS it it.fr).u (endS it it.fr).w (endS it it.to).u (endS it it.to).w <= 0
theorem arc_ends {size : Int} {it : Itm} (h : ArcMade size it) (hv : Qfa it) : ∃ R0 R1, ArcEnds it R0 R1 := by
 obtain ⟨r, k, t, g, x, h1, h2, h3, h4, h5, h6, h7, h8, h9, h10, h11, h12, h13⟩ := h.ends
 have hp := h.plane
 have a1 : dU it it.fr = rotU r k := by unfold dU; rw [h12, (pl_sp hp).1]; omega
 have a2 : dW it it.fr = rotW r k := by unfold dW; rw [h12, (pl_sp hp).2.1]; omega
 have a3 : dU it it.to = rotU (r + g) (k + t) := by unfold dU; rw [h12, h13, (pl_sp hp).1, (pl_sp hp).1]; omega
 have a4 : dW it it.to = rotW (r + g) (k + t) := by unfold dW; rw [h12, h13, (pl_sp hp).2.1, (pl_sp hp).2.1]; omega
 have e1 : sq2 (dU it it.fr * 16) (dW it it.fr * 16) = (16 * r) * (16 * r) := by
  have : sq2 (dU it it.fr * 16) (dW it it.fr * 16) = 256 * sq2 (dU it it.fr) (dW it it.fr) := by unfold sq2; grind
  rw [this, a1, a2, rot_sq]; grind
 have e2 : sq2 (dU it it.to * 16) (dW it it.to * 16) = (16 * (r + g)) * (16 * (r + g)) := by
  have : sq2 (dU it it.to * 16) (dW it it.to * 16) = 256 * sq2 (dU it it.to) (dW it it.to) := by unfold sq2; grind
  rw [this, a3, a4, rot_sq]; grind
 have m1 : (endS it it.fr).r = 16 * r := by unfold endS; simp only; rw [e1, midR_sq (by omega)]
 have m2 : (endS it it.to).r = 16 * (r + g) := by unfold endS; simp only; rw [e2, midR_sq (by omega)]
 obtain ⟨-, v1, v2, v3⟩ := hv
 obtain ⟨-, -, v6, -⟩ := v3 h.kind
 have o1 := endS_ok v6 v1
 have o2 := endS_ok v6 v2
 have nrm : ∀ R : Int, 128 <= R -> (R - 1) * (R - 1) <= R * R /\ R * R <= (R + 1) * (R + 1) := fun R hR => ⟨Int.mul_self_le_mul_self (by omega) (by omega), Int.mul_self_le_mul_self (by omega) (by omega)⟩
 refine ⟨16 * r, 16 * (r + g), ⟨o1, by omega, ?_⟩, ⟨o2, by omega, ?_⟩, ⟨m1, e1⟩, ⟨m2, e2⟩, by omega, ?_, ?_⟩
 ·rw [m1]; show _ <= sq2 (dU it it.fr * 16) (dW it it.fr * 16) /\ sq2 (dU it it.fr * 16) (dW it it.fr * 16) <= _
  rw [e1]; exact nrm _ (by omega)
 ·rw [m2]; show _ <= sq2 (dU it it.to * 16) (dW it it.to * 16) /\ sq2 (dU it it.to * 16) (dW it it.to * 16) <= _
  rw [e2]; exact nrm _ (by omega)
 ·intro hf
  rw [h11] at hf
  have ht := of_decide_eq_true hf
  have hg := h10 ht
  show dU it it.to * 16 = dU it it.fr * 16 /\ dW it it.to * 16 = dW it it.fr * 16 /\ _
  rw [a1, a2, a3, a4, ht, hg, Int.add_zero, Int.add_zero]
  exact ⟨rfl, rfl, rfl⟩
 ·intro hf
  rw [h11] at hf
  have ht := of_decide_eq_false hf
  show dt2 (dU it it.fr * 16) (dW it it.fr * 16) (dU it it.to * 16) (dW it it.to * 16) <= 0
  have e3 : dt2 (dU it it.fr * 16) (dW it it.fr * 16) (dU it it.to * 16) (dW it it.to * 16) = 256 * dt2 (dU it it.fr) (dW it it.fr) (dU it it.to) (dW it it.to) := by unfold dt2; grind
  have := rot_dot (r := r) (s := r + g) (k := k) (t := t) (by omega) (by omega) ⟨h3, h4⟩ (by omega)
  rw [e3, a1, a2, a3, a4]
  omega
theorem spokes_in {it : Itm} {R0 R1 : Int} (hd : it.dir = 1 \/ it.dir = -1) (h : ArcEnds it R0 R1) : ∀ q ∈ Qez it, Btw (endS it it.fr) (endS it it.to) q /\ (it.full = true \/ Ql2 (endS it it.fr).u (endS it it.fr).w (endS it it.to).u (endS it it.to).w q.u q.w it.dir) := by
 intro q hq
 have hle := h.le
 unfold Qez at hq
 have hra := h.ra
 have hrb := h.rb
 generalize ha : endS it it.fr = a at *
 generalize hb : endS it it.to = b at *
 rcases List.mem_cons.1 hq with hq | hq
 ·subst hq
  refine ⟨btw_left (ha ▸ h.a), ?_⟩
  by_cases hf : it.full = true
  ·exact .inl hf
  ·right
   have z : crs q.u q.w q.u q.w = 0 := by unfold crs; grind
   have hdt := h.part (by simpa using hf)
   rw [ha, hb] at hdt
   unfold Ql2
   rw [z]
   by_cases c1 : crs q.u q.w b.u b.w * it.dir > 0
   ·rw [if_pos c1]; exact ⟨by simp, by omega⟩
   ·rw [if_neg c1]
    by_cases c2 : crs q.u q.w b.u b.w * it.dir = 0 /\ dt2 q.u q.w b.u b.w < 0
    ·rw [if_pos c2]; simp
    ·rw [if_neg c2]; right; simp
 ·by_cases hf : it.full = true
  ·rw [hf] at hq
   have g := h.full hf
   rw [ha, hb] at g
   exact ⟨full_in hd 14 (ha ▸ h.a) (hb ▸ h.b) ⟨g.1, g.2.1⟩ (by rw [hrb.1, hra.1, g.2.2]) (by rw [hra.2, hra.1]) q hq, .inl hf⟩
  ·have hf' : it.full = false := by simpa using hf
   rw [hf'] at hq
   have hdt := h.part hf'
   rw [ha, hb] at hdt
   obtain ⟨g1, g2⟩ := wide_in hd 15 (ha ▸ h.a) (hb ▸ h.b) (by rw [hra.1, hrb.1]; omega) hdt q hq
   exact ⟨g1, .inr g2⟩
end Go.Bm
/- the points of a chord of an arc are near the arc -/
set_option maxRecDepth 100000
namespace Go.Bm
open Classical

theorem lagr (u w x y : Int) : dt2 u w x y * dt2 u w x y + crs u w x y * crs u w x y = sq2 u w * sq2 x y := by unfold dt2 crs sq2; grind
theorem tri {p q x y a b : Int} (ha : 0 <= a) (hb : 0 <= b) (h1 : sq2 p q <= a * a) (h2 : sq2 x y <= b * b) : sq2 (p + x) (q + y) <= (a + b) * (a + b) := by
 have hl := lagr p q x y
 have hc := Qe3 (crs p q x y)
 have n1 := sq2_ge0 p q
 have n2 := sq2_ge0 x y
 have h3 : dt2 p q x y <= a * b := by
  refine Qgp (Int.mul_nonneg ha hb) ?_
  have h4 : sq2 p q * sq2 x y <= (a * a) * (b * b) := Int.mul_le_mul h1 h2 n2 (Int.mul_nonneg ha ha)
  have e : a * b * (a * b) = (a * a) * (b * b) := by grind
  omega
 have e1 : sq2 (p + x) (q + y) = sq2 p q + sq2 x y + 2 * dt2 p q x y := by unfold sq2 dt2; grind
 have e2 : (a + b) * (a + b) = a * a + b * b + 2 * (a * b) := by grind
 omega
theorem sq2_scale (k u w : Int) : sq2 (k * u) (k * w) = k * k * sq2 u w := by unfold sq2; grind
end Go.Bm
/- the points of a chord of an arc lie in the arc's turn, or near its ends' rays -/
set_option maxRecDepth 100000
namespace Go.Bm
open Classical

theorem id_prod (au aw bu bw qu qw : Int) : sq2 au aw * dt2 bu bw qu qw = dt2 au aw bu bw * dt2 au aw qu qw + crs au aw bu bw * crs au aw qu qw := by unfold sq2 dt2 crs; grind
theorem id_crs (au aw bu bw qu qw : Int) : sq2 au aw * crs bu bw qu qw = dt2 au aw bu bw * crs au aw qu qw - crs au aw bu bw * dt2 au aw qu qw := by unfold sq2 dt2 crs; grind
def secP (au aw bu bw vu vw dir : Int) : Prop :=
 if 0 < crs au aw bu bw * dir then 0 <= crs au aw vu vw * dir /\ 0 <= crs vu vw bu bw * dir else 0 <= crs au aw vu vw * dir \/ 0 <= crs vu vw bu bw * dir
theorem pos_of_mul {a b : Int} (hb : 0 < b) (h : 0 < a * b) : 0 < a := by
 by_cases c : 0 < a
 ·exact c
 ·have := Int.mul_nonpos_of_nonpos_of_nonneg (show a <= 0 by omega) (Int.le_of_lt hb)
  omega
theorem nn_of_mul_neg {a b : Int} (hb : b < 0) (h : a * b <= 0) : 0 <= a := by
 by_cases c : 0 <= a
 ·exact c
 ·have := Int.mul_pos_of_neg_of_neg (show a < 0 by omega) hb
  omega
end Go.Bm
/- a cut makes a piece of an arc shorter -/
set_option maxRecDepth 100000
namespace Go.Bm
open Classical

theorem half_T {z R D : Int} (hR : 128 <= R) (hz : -2 <= z) (h1 : 50 * z <= 31 * R) (h2 : 32 * R - 607 <= D) (h3 : (z - 4) * (4 * R - z - 2) <= D) : (2 * (z.natAbs : Int) + 11) * (2 * (z.natAbs : Int) + 11) <= D := by
 by_cases c : z <= 20
 ·have : (2 * (z.natAbs : Int) + 11) * (2 * (z.natAbs : Int) + 11) <= 51 * 51 := Int.mul_self_le_mul_self (by omega) (by omega)
  omega
 have e0 : (z.natAbs : Int) = z := by omega
 rw [e0]
 by_cases c2 : z <= 60
 ·have k1 : (z - 4) * (510 - z) <= (z - 4) * (4 * R - z - 2) := Int.mul_le_mul_of_nonneg_left (by omega) (by omega)
  have k2 : 0 <= (z - 21) * (60 - z) := Int.mul_nonneg (by omega) (by omega)
  have e1 : (z - 4) * (510 - z) - (2 * z + 11) * (2 * z + 11) = 5 * ((z - 21) * (60 - z)) + 65 * z + 4139 := by grind
  omega
 ·have k1 : (z - 4) * (169 * z - 62) <= (z - 4) * (31 * (4 * R - z - 2)) := Int.mul_le_mul_of_nonneg_left (by omega) (by omega)
  have e1 : (z - 4) * (31 * (4 * R - z - 2)) = 31 * ((z - 4) * (4 * R - z - 2)) := by grind
  have e2 : (z - 4) * (169 * z - 62) - 31 * ((2 * z + 11) * (2 * z + 11)) = 45 * (z * z) - 2102 * z - 3503 := by grind
  have k2 : 60 * z <= z * z := Int.mul_le_mul_of_nonneg_right (by omega) (by omega)
  omega
theorem z_le {R S : Int} (hR : 128 <= R) (hS : 0 <= S) (h : (2 * R - 3) * (2 * R - 3) <= 2 * ((S + 1) * (S + 1))) : 50 * (2 * R - S) <= 31 * R := by
 by_cases c : 50 * (2 * R - S) <= 31 * R
 ·exact c
 ·exfalso
  have k1 : (50 * (S + 1)) * (50 * (S + 1)) <= (69 * R + 50) * (69 * R + 50) := Int.mul_self_le_mul_self (by omega) (by omega)
  have e1 : (50 * (S + 1)) * (50 * (S + 1)) = 2500 * ((S + 1) * (S + 1)) := by grind
  have e2 : (69 * R + 50) * (69 * R + 50) = 4761 * (R * R) + 6900 * R + 2500 := by grind
  have e3 : (2 * R - 3) * (2 * R - 3) = 4 * (R * R) - 12 * R + 9 := by grind
  have k2 : 128 * R <= R * R := Int.mul_le_mul_of_nonneg_right hR (by omega)
  omega
theorem core_T {su sw mu mw R S D : Int} (hR : 128 <= R) (hS : 0 <= S /\ S * S <= sq2 su sw /\ sq2 su sw < (S + 1) * (S + 1)) (hz : S <= 2 * R + 2) (hz2 : 50 * (2 * R - S) <= 31 * R) (h2 : 32 * R - 607 <= D) (h3 : (2 * R - S - 4) * (4 * R - (2 * R - S) - 2) <= D)
  (e1 : -(S + 2 * R + 1) <= 2 * mu * S - 2 * (su * R) /\ 2 * mu * S - 2 * (su * R) <= S + 2 * R + 1) (e2 : -(S + 2 * R + 1) <= 2 * mw * S - 2 * (sw * R) /\ 2 * mw * S - 2 * (sw * R) <= S + 2 * R + 1) :
  4 * sq2 (su - 2 * mu) (sw - 2 * mw) <= D := by
 have hD := half_T hR (show -2 <= 2 * R - S by omega) hz2 h2 h3
 obtain ⟨z, hzz⟩ : ∃ z, z = 2 * R - S := ⟨_, rfl⟩
 rw [<- hzz] at hD hz2
 have hpos : 0 < S := by omega
 -- the two parts
 have k1 : sq2 (su * -z) (sw * -z) <= ((S + 1) * z.natAbs) * ((S + 1) * z.natAbs) := by
  have a1 : (z.natAbs : Int) * z.natAbs = z * z := Int.natAbs_mul_self
  have e3 : sq2 (su * -z) (sw * -z) = sq2 su sw * (z * z) := by unfold sq2; grind
  have e4 : ((S + 1) * (z.natAbs : Int)) * ((S + 1) * z.natAbs) = (S + 1) * (S + 1) * (z * z) := by rw [<- a1]; grind
  rw [e3, e4]
  exact Int.mul_le_mul_of_nonneg_right (by omega) (Qe3 z)
 have k2 : sq2 (-(2 * mu * S - 2 * (su * R))) (-(2 * mw * S - 2 * (sw * R))) <= (2 * (S + 2 * R + 1)) * (2 * (S + 2 * R + 1)) := by
  have kk : ∀ e : Int, -(S + 2 * R + 1) <= e /\ e <= S + 2 * R + 1 -> -e * -e <= (S + 2 * R + 1) * (S + 2 * R + 1) := fun e he => by
   have : 0 <= (S + 2 * R + 1 - e) * (S + 2 * R + 1 + e) := Int.mul_nonneg (by omega) (by omega)
   have e5 : (S + 2 * R + 1 - e) * (S + 2 * R + 1 + e) = (S + 2 * R + 1) * (S + 2 * R + 1) - -e * -e := by grind
   omega
  have a1 := kk _ e1
  have a2 := kk _ e2
  have n := Qe3 (S + 2 * R + 1)
  have e6 : (2 * (S + 2 * R + 1)) * (2 * (S + 2 * R + 1)) = 4 * ((S + 2 * R + 1) * (S + 2 * R + 1)) := by grind
  unfold sq2
  omega
 have t := tri (Int.mul_nonneg (by omega) (by omega)) (by omega) k1 k2
 have e7 : sq2 (su * -z + -(2 * mu * S - 2 * (su * R))) (sw * -z + -(2 * mw * S - 2 * (sw * R))) = S * S * sq2 (su - 2 * mu) (sw - 2 * mw) := by
  rw [hzz]; unfold sq2; grind
 rw [e7] at t
 have k3 : 2 * ((S + 1) * (z.natAbs : Int) + 2 * (S + 2 * R + 1)) <= S * (2 * z.natAbs + 11) := by
  have e8 : (S + 1) * (z.natAbs : Int) = S * z.natAbs + z.natAbs := by grind
  have e9 : S * (2 * (z.natAbs : Int) + 11) = 2 * (S * z.natAbs) + 11 * S := by grind
  omega
 have k0 : 0 <= (S + 1) * (z.natAbs : Int) := Int.mul_nonneg (by omega) (by omega)
 have k4 := Int.mul_self_le_mul_self (show 0 <= 2 * ((S + 1) * (z.natAbs : Int) + 2 * (S + 2 * R + 1)) by omega) k3
 have e10 : 2 * ((S + 1) * (z.natAbs : Int) + 2 * (S + 2 * R + 1)) * (2 * ((S + 1) * (z.natAbs : Int) + 2 * (S + 2 * R + 1))) = 4 * (((S + 1) * (z.natAbs : Int) + 2 * (S + 2 * R + 1)) * ((S + 1) * (z.natAbs : Int) + 2 * (S + 2 * R + 1))) := by grind
 have e11 : S * (2 * (z.natAbs : Int) + 11) * (S * (2 * (z.natAbs : Int) + 11)) = S * S * ((2 * (z.natAbs : Int) + 11) * (2 * (z.natAbs : Int) + 11)) := by grind
 rw [e10, e11] at k4
 have hSS : 0 < S * S := Int.mul_pos hpos hpos
 have k5 : S * S * (4 * sq2 (su - 2 * mu) (sw - 2 * mw)) <= S * S * ((2 * (z.natAbs : Int) + 11) * (2 * (z.natAbs : Int) + 11)) := by
  have e12 : S * S * (4 * sq2 (su - 2 * mu) (sw - 2 * mw)) = 4 * (S * S * sq2 (su - 2 * mu) (sw - 2 * mw)) := by grind
  omega
 have := Int.le_of_mul_le_mul_left k5 hSS
 omega
theorem cut_D (x y m : Spk) : 4 * sq2 (x.u - m.u) (x.w - m.w) = sq2 (x.u - y.u) (x.w - y.w) + sq2 (x.u + y.u - 2 * m.u) (x.w + y.w - 2 * m.w) + 2 * dt2 (x.u - y.u) (x.w - y.w) (x.u + y.u - 2 * m.u) (x.w + y.w - 2 * m.w) /\
  4 * sq2 (m.u - y.u) (m.w - y.w) = sq2 (x.u - y.u) (x.w - y.w) + sq2 (x.u + y.u - 2 * m.u) (x.w + y.w - 2 * m.w) - 2 * dt2 (x.u - y.u) (x.w - y.w) (x.u + y.u - 2 * m.u) (x.w + y.w - 2 * m.w) := by
 constructor <;> (unfold sq2 dt2; grind)
theorem am_gm (p q x y : Int) : 4 * dt2 p q x y <= sq2 p q + 4 * sq2 x y /\ -(4 * dt2 p q x y) <= sq2 p q + 4 * sq2 x y := by
 have h1 := sq2_ge0 (p - 2 * x) (q - 2 * y)
 have h2 := sq2_ge0 (p + 2 * x) (q + 2 * y)
 have e1 : sq2 (p - 2 * x) (q - 2 * y) = sq2 p q + 4 * sq2 x y - 4 * dt2 p q x y := by unfold sq2 dt2; grind
 have e2 : sq2 (p + 2 * x) (q + 2 * y) = sq2 p q + 4 * sq2 x y + 4 * dt2 p q x y := by unfold sq2 dt2; grind
 omega
theorem along_D {x y : Spk} {dir : Int} (hx : Sp x) (hy : Sp y) (h1 : 0 < dt2 x.u x.w y.u y.w) (h2 : 0 < crs x.u x.w y.u y.w * dir) (h3 : ((x.r - y.r).natAbs : Int) <= 33) (h4 : 32 * mn x.r y.r - 64 < sq2 (x.u - y.u) (x.w - y.w)) :
  16 * sq2 (x.u - (midS x y dir false).u) (x.w - (midS x y dir false).w) <= 9 * sq2 (x.u - y.u) (x.w - y.w) /\ 16 * sq2 ((midS x y dir false).u - y.u) ((midS x y dir false).w - y.w) <= 9 * sq2 (x.u - y.u) (x.w - y.w) := by
 have eM : midD x y dir false = (x.u + y.u, x.w + y.w) := by
  unfold midD
  rw [if_neg (by simp), if_pos ⟨h1, h2⟩]
 obtain ⟨hu, hw⟩ := bd_b hx.ok hy.ok
 have h0 : ¬ (x.u + y.u = 0 /\ x.w + y.w = 0) := by
  rintro ⟨g1, g2⟩
  have : dt2 x.u x.w y.u y.w = dt2 x.u x.w (x.u + y.u) (x.w + y.w) - sq2 x.u x.w := by unfold dt2 sq2; grind
  rw [g1, g2] at this
  have e0 : dt2 x.u x.w 0 0 = 0 := by unfold dt2; simp
  have := sq2_ge0 x.u x.w
  omega
 obtain ⟨-, s2⟩ := sp_mid hx hy hu hw h0
 have hr := radii hx hy h3
 obtain ⟨S, r1, r2, r3⟩ := root_bd hu hw
 have q1 := Qlo hu
 have q2 := Qlo hw
 have hpos := sq2_pos h0
 have hn : sq2 (x.u + y.u) (x.w + y.w) <= 20000000000000000 := by unfold sq2; omega
 obtain ⟨qq1, qq2⟩ := sq2_sq (x.u + y.u) (x.w + y.w)
 have hR5 := hr.R5
 have er1 := near_err hu (R := hf x.r y.r) ⟨by omega, hR5.2⟩ ⟨hpos, hn⟩ qq1 ⟨r1, r2, r3⟩
 have er2 := near_err hw (R := hf x.r y.r) ⟨by omega, hR5.2⟩ ⟨hpos, hn⟩ qq2 ⟨r1, r2, r3⟩
 have emid : midS x y dir false = ⟨Qc1 (x.u + y.u) (hf x.r y.r) (sq2 (x.u + y.u) (x.w + y.w)), Qc1 (x.w + y.w) (hf x.r y.r) (sq2 (x.u + y.u) (x.w + y.w)), hf x.r y.r, hf x.h y.h⟩ := by
  unfold midS; rw [eM]; exact s2
 have hT : 4 * sq2 (x.u + y.u - 2 * (midS x y dir false).u) (x.w + y.w - 2 * (midS x y dir false).w) <= sq2 (x.u - y.u) (x.w - y.w) := by
  rw [emid]
  simp only
  have nx := hx.norm
  have ny := hy.norm
  have rx := hx.r
  have ry := hy.r
  have eS := eq_S x y
  have eD := eq_D x y
  have hm := mn_cases x.r y.r
  have hR : 2 * hf x.r y.r = x.r + y.r \/ 2 * hf x.r y.r = x.r + y.r + 1 := by unfold hf; omega
  have t := tri (p := x.u) (q := x.w) (x := y.u) (y := y.w) (a := x.r + 1) (b := y.r + 1) (by omega) (by omega) nx.2 ny.2
  have hSle : S <= x.r + 1 + (y.r + 1) := Qgp (by omega) (by omega)
  have k2 : (2 * hf x.r y.r - 3) * (2 * hf x.r y.r - 3) <= 2 * (sq2 x.u x.w + sq2 y.u y.w) := by
   have a1 : (2 * hf x.r y.r - 3) * (2 * hf x.r y.r - 3) <= (x.r - 1 + (y.r - 1)) * (x.r - 1 + (y.r - 1)) := Int.mul_self_le_mul_self (by omega) (by omega)
   have a2 := Qe3 (x.r - 1 - (y.r - 1))
   have e1 : (x.r - 1 + (y.r - 1)) * (x.r - 1 + (y.r - 1)) = 2 * ((x.r - 1) * (x.r - 1)) + 2 * ((y.r - 1) * (y.r - 1)) - (x.r - 1 - (y.r - 1)) * (x.r - 1 - (y.r - 1)) := by grind
   omega
  refine core_T (R := hf x.r y.r) (by omega) ⟨r1, r2, r3⟩ (by omega) (z_le (by omega) r1 (by omega)) (by omega) ?_ er1 er2
  have e3 : (2 * hf x.r y.r - S - 4) * (4 * hf x.r y.r - (2 * hf x.r y.r - S) - 2) = (2 * hf x.r y.r - 3) * (2 * hf x.r y.r - 3) - (S + 1) * (S + 1) := by grind
  omega
 generalize midS x y dir false = m at *
 obtain ⟨c1, c2⟩ := cut_D x y m
 obtain ⟨g1, g2⟩ := am_gm (x.u - y.u) (x.w - y.w) (x.u + y.u - 2 * m.u) (x.w + y.w - 2 * m.w)
 omega
end Go.Bm
/- the pieces of an arc are settled before the depth of the cuts ends -/
set_option maxRecDepth 100000
namespace Go.Bm
open Classical

def Qjd (P : Spk -> Spk -> Prop) : Spk -> List Spk -> Prop
 | _, [] => True
 | x, y :: l => P x y /\ Qjd P y l
theorem pairs_app {P : Spk -> Spk -> Prop} {m : Spk} {l2 : List Spk} : ∀ {x : Spk} {l1 : List Spk}, Qjd P x (l1 ++ [m]) -> Qjd P m l2 -> Qjd P x (l1 ++ [m] ++ l2)
 | _, [], h1, h2 => ⟨h1.1, h2⟩
 | _, _ :: _, h1, h2 => ⟨h1.1, pairs_app h1.2 h2⟩
theorem pairs_mono {P Q : Spk -> Spk -> Prop} (h : ∀ a b, P a b -> Q a b) : ∀ {x : Spk} {l : List Spk}, Qjd P x l -> Qjd Q x l
 | _, [], _ => trivial
 | _, _ :: _, g => ⟨h _ _ g.1, pairs_mono h g.2⟩
theorem pcsL_end {dir : Int} : ∀ (k : Nat) (full : Bool) (a b : Spk), ∃ l, pcsL dir k full a b = l ++ [b]
 | 0, _, _, b => ⟨[], rfl⟩
 | k + 1, full, a, b => by
  unfold pcsL
  split
  ·exact ⟨[], rfl⟩
  ·obtain ⟨l, hl⟩ := pcsL_end (dir := dir) k false (midS a b dir full) b
   rw [hl]
   exact ⟨pcsL dir k false a (midS a b dir full) ++ l, by rw [List.append_assoc]⟩
theorem pairs_cut {P : Spk -> Spk -> Prop} {dir : Int} {k : Nat} {x m y : Spk} (h1 : Qjd P x (pcsL dir k false x m)) (h2 : Qjd P m (pcsL dir k false m y)) : Qjd P x (pcsL dir k false x m ++ pcsL dir k false m y) := by
 obtain ⟨l, hl⟩ := pcsL_end (dir := dir) k false x m
 rw [hl] at h1 ⊢
 exact pairs_app h1 h2
structure Leaf (dir : Int) (x y : Spk) : Prop where
 left : Sp x
 right : Sp y
 turn : 0 < crs x.u x.w y.u y.w * dir
 flat : sq2 (x.u - y.u) (x.w - y.w) <= 32 * mn x.r y.r - 64
theorem mn_hf (a b : Int) : mn a b <= mn a (hf a b) /\ mn a b <= mn (hf a b) b := by unfold hf mn; split <;> split <;> split <;> omega
theorem dot_poly {p A B M D d e : Int} (hp : 128 <= p) (hA : (p - 1) * (p - 1) <= A) (hM : (p - 1) * (p - 1) <= M) (hS : 2 * (A + B) <= (2 * (p + 34)) * (2 * (p + 34))) (hD : D < A + B) (h : 16 * d <= 9 * D) (he : d = A + M - 2 * e) : 0 < e := by
 have e1 : (2 * (p + 34)) * (2 * (p + 34)) = 4 * (p * p) + 272 * p + 4624 := by grind
 have e2 : (p - 1) * (p - 1) = p * p - 2 * p + 1 := by grind
 have k : 128 * p <= p * p := Int.mul_le_mul_of_nonneg_right hp (by omega)
 omega
theorem along_leaf {dir thr : Int} (hd : dir = 1 \/ dir = -1) : ∀ (k : Nat) {x y : Spk}, Sp x -> Sp y -> 0 < crs x.u x.w y.u y.w * dir -> 0 < dt2 x.u x.w y.u y.w -> ((x.r - y.r).natAbs : Int) <= 33 -> thr <= 32 * mn x.r y.r - 64 -> 9 ^ k * sq2 (x.u - y.u) (x.w - y.w) <= 16 ^ k * thr ->
  Qjd (Leaf dir) x (pcsL dir k false x y)
 | 0, x, y, hx, hy, hX, _, _, ht, hD => by
  unfold pcsL
  exact ⟨⟨hx, hy, hX, by simp at hD; omega⟩, trivial⟩
 | k + 1, x, y, hx, hy, hX, hdt, h33, ht, hD => by
  unfold pcsL
  by_cases c : setS x y dir false
  ·rw [if_pos c]
   exact ⟨⟨hx, hy, hX, c.2.2⟩, trivial⟩
  ·rw [if_neg c]
   have hcut : 32 * mn x.r y.r - 64 < sq2 (x.u - y.u) (x.w - y.w) := by
    have : ¬ sq2 (x.u - y.u) (x.w - y.w) <= 32 * mn x.r y.r - 64 := fun h => c ⟨rfl, hX, h⟩
    omega
   obtain ⟨m1, m2, m3, m4, m5⟩ := mid_along hd hx hy hdt hX h33 hcut
   obtain ⟨d1, d2⟩ := along_D hx hy hdt hX h33 hcut
   have hr := radii hx hy h33
   generalize midS x y dir false = m at *
   obtain ⟨f1, f2⟩ := half_d m2 (show ((x.r - y.r).natAbs : Int) <= 64 by omega)
   have hmn := mn_hf x.r y.r
   rw [<- m2] at hmn
   have hlt : sq2 (x.u - y.u) (x.w - y.w) < sq2 x.u x.w + sq2 y.u y.w := by rw [eq_D]; omega
   have hM : (mn x.r y.r - 1) * (mn x.r y.r - 1) <= sq2 m.u m.w := by
    refine Int.le_trans (Int.mul_self_le_mul_self (by have := hr.m.2; omega) ?_) m1.norm.1
    have := hr.R.1
    rw [m2]; omega
   have hS : 2 * (sq2 x.u x.w + sq2 y.u y.w) <= (2 * (mn x.r y.r + 34)) * (2 * (mn x.r y.r + 34)) := hr.S
   have g1 : 0 < dt2 x.u x.w m.u m.w := dot_poly hr.m.2 hr.A.1 hM hS hlt d1 (eq_D x m)
   have g2 : 0 < dt2 m.u m.w y.u y.w := dot_poly (A := sq2 y.u y.w) (B := sq2 x.u x.w) hr.m.2 hr.A.2 hM (by rw [Int.add_comm]; exact hS) (by rw [Int.add_comm]; exact hlt) d2 (by rw [eq_D m y]; omega)
   have key : ∀ D', 16 * D' <= 9 * sq2 (x.u - y.u) (x.w - y.w) -> 9 ^ k * D' <= 16 ^ k * thr := by
    intro D' h
    have p1 : (0 : Int) <= 9 ^ k := Int.pow_nonneg (by omega)
    have h2 : 9 ^ k * (16 * D') <= 9 ^ k * (9 * sq2 (x.u - y.u) (x.w - y.w)) := Int.mul_le_mul_of_nonneg_left h p1
    have e1 : (9 : Int) ^ k * (9 * sq2 (x.u - y.u) (x.w - y.w)) = 9 ^ (k + 1) * sq2 (x.u - y.u) (x.w - y.w) := by rw [Int.pow_succ]; grind
    have e2 : (16 : Int) ^ (k + 1) * thr = 16 * (16 ^ k * thr) := by rw [Int.pow_succ]; grind
    have e3 : (9 : Int) ^ k * (16 * D') = 16 * (9 ^ k * D') := by grind
    omega
   exact pairs_cut (along_leaf hd k hx m1 m4 g1 f1 (by omega) (key _ d1)) (along_leaf hd k m1 hy m5 g2 f2 (by omega) (key _ d2))
end Go.Bm
/- all pieces of a made arc are settled; which turn they lie in -/
set_option maxRecDepth 100000
namespace Go.Bm
open Classical

theorem side_q {p q u w R S dir : Int} (hd : dir = 1 \/ dir = -1) (hu : u.natAbs <= 100000000) (hw : w.natAbs <= 100000000) (hR : 1 <= R /\ R <= 50000000) (h0 : ¬ (u = 0 /\ w = 0)) (hS : 0 <= S /\ S * S <= sq2 u w /\ sq2 u w < (S + 1) * (S + 1)) :
  2 * R * (crs p q u w * dir) - (p.natAbs + q.natAbs) * (S + 2 * R + 1) <= 2 * S * (crs p q (Qc1 u R (sq2 u w)) (Qc1 w R (sq2 u w)) * dir) := by
 have hp := sq2_pos h0
 have b1 := Qlo hu
 have b2 := Qlo hw
 have hn : sq2 u w <= 20000000000000000 := by unfold sq2; omega
 obtain ⟨q1, q2⟩ := sq2_sq u w
 have e1 := near_err hu ⟨by omega, hR.2⟩ ⟨hp, hn⟩ q1 hS
 have e2 := near_err hw ⟨by omega, hR.2⟩ ⟨hp, hn⟩ q2 hS
 generalize Qc1 u R (sq2 u w) = a at *
 generalize Qc1 w R (sq2 u w) = b at *
 have hE : 0 <= S + 2 * R + 1 := by omega
 generalize S + 2 * R + 1 = E at *
 have m1 := mul_ge (x := p) (y := (2 * b * S - 2 * (w * R)) * dir) (E := E) (by rcases hd with rfl | rfl <;> omega)
 have m2 := mul_ge (x := -q) (y := (2 * a * S - 2 * (u * R)) * dir) (E := E) (by rcases hd with rfl | rfl <;> omega)
 have e3 : ((-q).natAbs : Int) = q.natAbs := by omega
 rw [e3] at m2
 have key : 2 * S * (crs p q a b * dir) = 2 * R * (crs p q u w * dir) + p * ((2 * b * S - 2 * (w * R)) * dir) + -q * ((2 * a * S - 2 * (u * R)) * dir) := by unfold crs; grind
 rw [Int.add_mul]
 omega
theorem est_q {p R S n C X : Int} (hp : 128 <= p) (hR : p <= R /\ R <= p + 64) (hS : 0 <= S /\ S <= 2 * (p + 65)) (hn : 0 <= n /\ n <= 2 * (p + 65)) (hC : (p - 1) * (p - 1) <= C) (hX : 0 < X) (h : 2 * R * C - n * (S + 2 * R + 1) <= 2 * S * X) : 28 * p <= X := by
 have k : n * (S + 2 * R + 1) <= (4 * p) * (7 * p) := Int.mul_le_mul (by omega) (by omega) (by omega) (by omega)
 have k2 : 2 * p * ((p - 1) * (p - 1)) <= 2 * R * C := Int.mul_le_mul (by omega) hC (Qe3 _) (by omega)
 have k3 : 2 * S * X <= (8 * p) * X := Int.mul_le_mul_of_nonneg_right (by omega) (by omega)
 have e1 : (8 * p) * X = (2 * p) * (4 * X) := by grind
 have e2 : 2 * p * ((p - 1) * (p - 1)) - (4 * p) * (7 * p) = (2 * p) * ((p - 1) * (p - 1) - 14 * p) := by grind
 have k4 : (2 * p) * ((p - 1) * (p - 1) - 14 * p) <= (2 * p) * (4 * X) := by omega
 have k5 := Int.le_of_mul_le_mul_left k4 (by omega)
 have e3 : (p - 1) * (p - 1) = p * p - 2 * p + 1 := by grind
 have k6 : 128 * p <= p * p := Int.mul_le_mul_of_nonneg_right hp (by omega)
 omega
theorem est_d {p R S n C : Int} (hp : 128 <= p) (hR : p <= R /\ R <= p + 64) (hS : 0 <= S /\ S <= 2 * (p + 65)) (hn : 0 <= n /\ n <= 2 * (p + 65)) (hC : 16 * p <= C) : n * (S + 2 * R + 1) < 2 * R * C := by
 have k : n * (S + 2 * R + 1) <= (4 * p) * (7 * p) := Int.mul_le_mul (by omega) (by omega) (by omega) (by omega)
 have k2 : 2 * p * (16 * p) <= 2 * R * C := Int.mul_le_mul (by omega) hC (by omega) (by omega)
 have e1 : 2 * p * (16 * p) = 32 * (p * p) := by grind
 have e2 : (4 * p) * (7 * p) = 28 * (p * p) := by grind
 have : 0 < p * p := Int.mul_pos (by omega) (by omega)
 omega
theorem dt_crs (a b c d : Int) : dt2 a b c d = crs b (-a) c d * 1 := by unfold dt2 crs; grind
theorem across_more {x y : Spk} {dir : Int} (hd : dir = 1 \/ dir = -1) (hx : Sp x) (hy : Sp y) (h64 : ((x.r - y.r).natAbs : Int) <= 64) (h : dt2 x.u x.w y.u y.w <= 0) :
  28 * mn x.r y.r <= crs x.u x.w (midS x y dir false).u (midS x y dir false).w * dir /\ 28 * mn x.r y.r <= crs (midS x y dir false).u (midS x y dir false).w y.u y.w * dir /\
  (16 * mn x.r y.r <= crs x.u x.w y.u y.w * dir -> 0 < dt2 x.u x.w (midS x y dir false).u (midS x y dir false).w /\ 0 < dt2 (midS x y dir false).u (midS x y dir false).w y.u y.w) := by
 obtain ⟨-, -, -, hp1, hp2⟩ := mid_across hd hx hy h64 h
 have hr := radii hx hy h64
 have hdd := dir_sq hd
 have eM : midD x y dir false = (dir * (y.w - x.w), dir * (x.u - y.u)) := by
  unfold midD
  rw [if_neg (by simp), if_neg (fun g => absurd h (Int.not_le.2 g.1)), if_neg (fun g => absurd h (Int.not_le.2 g))]
 have eN : sq2 (dir * (y.w - x.w)) (dir * (x.u - y.u)) = sq2 (x.u - y.u) (x.w - y.w) := by
  have : sq2 (dir * (y.w - x.w)) (dir * (x.u - y.u)) = dir * dir * sq2 (x.u - y.u) (x.w - y.w) := by unfold sq2; grind
  rw [this, hdd, Int.one_mul]
 have eC : crs x.u x.w (dir * (y.w - x.w)) (dir * (x.u - y.u)) * dir = sq2 x.u x.w - dt2 x.u x.w y.u y.w := by
  have : crs x.u x.w (dir * (y.w - x.w)) (dir * (x.u - y.u)) * dir = dir * dir * (sq2 x.u x.w - dt2 x.u x.w y.u y.w) := by unfold crs sq2 dt2; grind
  rw [this, hdd, Int.one_mul]
 have eC2 : crs y.u y.w (dir * (y.w - x.w)) (dir * (x.u - y.u)) * -dir = sq2 y.u y.w - dt2 x.u x.w y.u y.w := by
  have : crs y.u y.w (dir * (y.w - x.w)) (dir * (x.u - y.u)) * -dir = dir * dir * (sq2 y.u y.w - dt2 x.u x.w y.u y.w) := by unfold crs sq2 dt2; grind
  rw [this, hdd, Int.one_mul]
 have eE : crs x.w (-x.u) (dir * (y.w - x.w)) (dir * (x.u - y.u)) * 1 = crs x.u x.w y.u y.w * dir := by unfold crs; grind
 have eE2 : crs y.w (-y.u) (dir * (y.w - x.w)) (dir * (x.u - y.u)) * 1 = crs x.u x.w y.u y.w * dir := by unfold crs; grind
 obtain ⟨hu, hw⟩ := bd_a hx.ok hy.ok hd
 have nS := sq2_ge0 (x.u + y.u) (x.w + y.w)
 rw [eq_S] at nS
 rw [eq_D] at eN
 have hA := hr.A
 have hp := hr.m.2
 have hR := hr.R
 have hsum : 2 * (sq2 x.u x.w + sq2 y.u y.w) <= (2 * (mn x.r y.r + 65)) * (2 * (mn x.r y.r + 65)) := hr.S
 have hcx : 0 <= (x.u.natAbs : Int) + x.w.natAbs /\ (x.u.natAbs : Int) + x.w.natAbs <= 2 * (mn x.r y.r + 65) := hr.cx
 have hcy : 0 <= (y.u.natAbs : Int) + y.w.natAbs /\ (y.u.natAbs : Int) + y.w.natAbs <= 2 * (mn x.r y.r + 65) := hr.cy
 have hR5 := hr.R5
 have h0 : ¬ (dir * (y.w - x.w) = 0 /\ dir * (x.u - y.u) = 0) := by
  rintro ⟨g1, g2⟩
  rw [g1, g2] at eC
  have e0 : crs x.u x.w 0 0 * dir = 0 := by unfold crs; simp
  rw [e0] at eC
  have : 0 < (mn x.r y.r - 1) * (mn x.r y.r - 1) := Int.mul_pos (by omega) (by omega)
  omega
 obtain ⟨-, s2⟩ := sp_mid hx hy hu hw h0
 have emid : midS x y dir false = ⟨Qc1 (dir * (y.w - x.w)) (hf x.r y.r) (sq2 (dir * (y.w - x.w)) (dir * (x.u - y.u))), Qc1 (dir * (x.u - y.u)) (hf x.r y.r) (sq2 (dir * (y.w - x.w)) (dir * (x.u - y.u))), hf x.r y.r, hf x.h y.h⟩ := by
  unfold midS; rw [eM]; exact s2
 clear hr h64 hdd
 generalize mn x.r y.r = p at *
 obtain ⟨S, r1, r2, r3⟩ := root_bd hu hw
 have hS : S <= 2 * (p + 65) := Qgp (by omega) (by omega)
 have t1 := side_q (p := x.u) (q := x.w) hd hu hw hR5 h0 ⟨r1, r2, r3⟩
 have t2 := side_q (p := y.u) (q := y.w) (dir := -dir) (by omega) hu hw hR5 h0 ⟨r1, r2, r3⟩
 rw [eC] at t1
 rw [eC2] at t2
 have d1 := fun hX => side (p := x.w) (q := -x.u) (dir := 1) (.inl rfl) hu hw hR5 h0 ⟨r1, r2, r3⟩ hX
 have d2 := fun hX => side (p := y.w) (q := -y.u) (dir := 1) (.inl rfl) hu hw hR5 h0 ⟨r1, r2, r3⟩ hX
 rw [eE] at d1
 rw [eE2] at d2
 rw [emid] at hp1 hp2 ⊢
 simp only at hp1 hp2 ⊢
 rw [crs_dir (Qc1 (dir * (y.w - x.w)) (hf x.r y.r) (sq2 (dir * (y.w - x.w)) (dir * (x.u - y.u))))] at hp2 ⊢
 have n1 : ((-x.u).natAbs : Int) = x.u.natAbs := by omega
 have n2 : ((-y.u).natAbs : Int) = y.u.natAbs := by omega
 rw [n1, Int.add_comm (x.w.natAbs : Int)] at d1
 rw [n2, Int.add_comm (y.w.natAbs : Int)] at d2
 refine ⟨est_q hp hR ⟨r1, hS⟩ hcx (by omega) hp1 t1, est_q hp hR ⟨r1, hS⟩ hcy (by omega) hp2 t2, fun hX => ⟨?_, ?_⟩⟩
 ·rw [dt_crs]; exact d1 (est_d hp hR ⟨r1, hS⟩ hcx hX)
 ·have e9 : ∀ a b c d : Int, dt2 a b c d = dt2 c d a b := fun a b c d => by unfold dt2; grind
  rw [e9, dt_crs]; exact d2 (est_d hp hR ⟨r1, hS⟩ hcy hX)
theorem mid_leaf {dir thr N : Int} (hd : dir = 1 \/ dir = -1) (k : Nat) {x y : Spk} (hx : Sp x) (hy : Sp y) (h33 : ((x.r - y.r).natAbs : Int) <= 33) (hX : 16 * mn x.r y.r <= crs x.u x.w y.u y.w * dir) (ht : thr <= 32 * mn x.r y.r - 64)
  (hN : (x.r + 1) * (x.r + 1) <= N /\ (y.r + 1) * (y.r + 1) <= N) (h1 : 9 ^ k * (2 * N) <= 16 ^ k * thr) (h2 : 9 ^ (k + 1) * (2 * N) <= 16 ^ (k + 1) * thr) : Qjd (Leaf dir) x (pcsL dir (k + 1) false x y) := by
 have hr := radii hx hy h33
 have hpm := hr.m.2
 have hX0 : 0 < crs x.u x.w y.u y.w * dir := by omega
 have nx := hx.norm
 have ny := hy.norm
 have mono : ∀ (j : Nat) (D : Int), D <= 2 * N -> 9 ^ j * (2 * N) <= 16 ^ j * thr -> 9 ^ j * D <= 16 ^ j * thr := fun j D hD h => by
  have : (9 : Int) ^ j * D <= 9 ^ j * (2 * N) := Int.mul_le_mul_of_nonneg_left hD (Int.pow_nonneg (by omega))
  omega
 by_cases hdt : 0 < dt2 x.u x.w y.u y.w
 ·refine along_leaf hd (k + 1) hx hy hX0 hdt h33 ht (mono _ _ ?_ h2)
  rw [eq_D]; omega
 ·have h64 : ((x.r - y.r).natAbs : Int) <= 64 := by omega
  obtain ⟨m1, m2, m3, m4, m5⟩ := mid_across hd hx hy h64 (by omega)
  obtain ⟨-, -, a3⟩ := across_more hd hx hy h64 (by omega)
  obtain ⟨g1, g2⟩ := a3 hX
  unfold pcsL
  by_cases c : setS x y dir false
  ·rw [if_pos c]; exact ⟨⟨hx, hy, hX0, c.2.2⟩, trivial⟩
  rw [if_neg c]
  generalize midS x y dir false = m at *
  obtain ⟨f1, f2⟩ := half_d m2 h64
  have hmn := mn_hf x.r y.r
  rw [<- m2] at hmn
  have hmM : sq2 m.u m.w <= N := by
   have h3 := (hf_btw x.r y.r).2
   rw [<- m2] at h3
   have h4 := m1.norm.2
   have h5 := m1.r
   have : (m.r + 1) * (m.r + 1) <= N := by
    unfold mx at h3
    split at h3
    ·exact Int.le_trans (Int.mul_self_le_mul_self (by omega) (by omega)) hN.2
    ·exact Int.le_trans (Int.mul_self_le_mul_self (by omega) (by omega)) hN.1
   omega
  exact pairs_cut (along_leaf hd k hx m1 m4 g1 f1 (by omega) (mono _ _ (by rw [eq_D]; omega) h1)) (along_leaf hd k m1 hy m5 g2 f2 (by omega) (mono _ _ (by rw [eq_D]; omega) h1))
theorem part_leaf {dir thr N : Int} (hd : dir = 1 \/ dir = -1) {x y : Spk} (hx : Sp x) (hy : Sp y) (h64 : ((x.r - y.r).natAbs : Int) <= 64) (hdt : dt2 x.u x.w y.u y.w <= 0) (ht : thr <= 32 * mn x.r y.r - 64)
  (hN : (x.r + 1) * (x.r + 1) <= N /\ (y.r + 1) * (y.r + 1) <= N) (h1 : 9 ^ 14 * (2 * N) <= 16 ^ 14 * thr) (h2 : 9 ^ 15 * (2 * N) <= 16 ^ 15 * thr) : Qjd (Leaf dir) x (pcsL dir 16 false x y) := by
 have hr := radii hx hy h64
 have hpm := hr.m.2
 obtain ⟨m1, m2, m3, m4, m5⟩ := mid_across hd hx hy h64 hdt
 obtain ⟨a1, a2, -⟩ := across_more hd hx hy h64 hdt
 rw [pcsL]
 by_cases c : setS x y dir false
 ·rw [if_pos c]; exact ⟨⟨hx, hy, c.2.1, c.2.2⟩, trivial⟩
 rw [if_neg c]
 generalize midS x y dir false = m at *
 obtain ⟨f1, f2⟩ := half_d m2 h64
 have hmn := mn_hf x.r y.r
 rw [<- m2] at hmn
 have hup : mn x.r m.r <= mn x.r y.r + 64 /\ mn m.r y.r <= mn x.r y.r + 64 := by
  have := hr.R
  rw [<- m2] at this
  unfold mn at *
  split at * <;> split at * <;> split at * <;> omega
 have hmM : (m.r + 1) * (m.r + 1) <= N := by
  have h3 := (hf_btw x.r y.r).2
  rw [<- m2] at h3
  have h5 := m1.r
  unfold mx at h3
  split at h3
  ·exact Int.le_trans (Int.mul_self_le_mul_self (by omega) (by omega)) hN.2
  ·exact Int.le_trans (Int.mul_self_le_mul_self (by omega) (by omega)) hN.1
 exact pairs_cut (mid_leaf hd 14 hx m1 f1 (by omega) (by omega) ⟨hN.1, hmM⟩ h1 h2) (mid_leaf hd 14 m1 hy f2 (by omega) (by omega) ⟨hmM, hN.2⟩ h1 h2)
end Go.Bm
