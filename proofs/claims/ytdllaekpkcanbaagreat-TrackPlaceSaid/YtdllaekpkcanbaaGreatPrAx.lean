/- laid together -/
import Derived.Test.YtdllaekpkcanbaaGreatPrAtF
import Derived.Test.YtdllaekpkcanbaaGreatMx4
set_option linter.unusedVariables false
set_option linter.unusedSimpArgs false
/- tracks: pieces, how a piece is added, the way over a path -/
set_option maxRecDepth 100000
namespace Go.Bm
open Classical

theorem nth_40 {α : Type} (d x : α) (l : List α) : nth d (x :: l) 40 = nth d l 39 := by simp [nth]
theorem nth_41 {α : Type} (d x : α) (l : List α) : nth d (x :: l) 41 = nth d l 40 := by simp [nth]
theorem nth_42 {α : Type} (d x : α) (l : List α) : nth d (x :: l) 42 = nth d l 41 := by simp [nth]
theorem nth_43 {α : Type} (d x : α) (l : List α) : nth d (x :: l) 43 = nth d l 42 := by simp [nth]
theorem nth_44 {α : Type} (d x : α) (l : List α) : nth d (x :: l) 44 = nth d l 43 := by simp [nth]
theorem nth_45 {α : Type} (d x : α) (l : List α) : nth d (x :: l) 45 = nth d l 44 := by simp [nth]
theorem nth_46 {α : Type} (d x : α) (l : List α) : nth d (x :: l) 46 = nth d l 45 := by simp [nth]
theorem nth_47 {α : Type} (d x : α) (l : List α) : nth d (x :: l) 47 = nth d l 46 := by simp [nth]
theorem nth_48 {α : Type} (d x : α) (l : List α) : nth d (x :: l) 48 = nth d l 47 := by simp [nth]
theorem nth_49 {α : Type} (d x : α) (l : List α) : nth d (x :: l) 49 = nth d l 48 := by simp [nth]
theorem nth_50 {α : Type} (d x : α) (l : List α) : nth d (x :: l) 50 = nth d l 49 := by simp [nth]
theorem nth_51 {α : Type} (d x : α) (l : List α) : nth d (x :: l) 51 = nth d l 50 := by simp [nth]
theorem nth_52 {α : Type} (d x : α) (l : List α) : nth d (x :: l) 52 = nth d l 51 := by simp [nth]
theorem nth_53 {α : Type} (d x : α) (l : List α) : nth d (x :: l) 53 = nth d l 52 := by simp [nth]
theorem nth_54 {α : Type} (d x : α) (l : List α) : nth d (x :: l) 54 = nth d l 53 := by simp [nth]
theorem nth_55 {α : Type} (d x : α) (l : List α) : nth d (x :: l) 55 = nth d l 54 := by simp [nth]
attribute [go_sem] nth_40 nth_41 nth_42 nth_43 nth_44 nth_45 nth_46 nth_47 nth_48 nth_49 nth_50 nth_51 nth_52 nth_53 nth_54 nth_55
theorem mn_eq (a b : Int) : mn a b = min a b := by unfold mn; rw [Int.min_def]; split <;> split <;> omega
theorem mx_eq (a b : Int) : mx a b = max a b := by unfold mx; rw [Int.max_def]; split <;> split <;> omega

structure Ax3 where
 (a b c : Axs)
abbrev ax3R (x : Ax3) : List AC := [I x.a.step, I x.a.speed, I x.a.accel, I x.a.jerk, I x.a.low, I x.a.high, I x.a.back, I x.a.origin, I x.a.spacing, .view kInts (x.a.pitch.map intR), I x.b.step, I x.b.speed, I x.b.accel, I x.b.jerk, I x.b.low, I x.b.high, I x.b.back, I x.b.origin, I x.b.spacing, .view kInts (x.b.pitch.map intR), I x.c.step, I x.c.speed, I x.c.accel, I x.c.jerk, I x.c.low, I x.c.high, I x.c.back, I x.c.origin, I x.c.spacing, .view kInts (x.c.pitch.map intR)]
def turn1 (now a b mv : Int) : Int := if b > a then mv else if b < a then -mv else now
def turnD (now a b : Pt) (mv : Int) : Pt := ⟨turn1 now.x a.x b.x mv, turn1 now.y a.y b.y mv, turn1 now.z a.z b.z mv⟩
def slk (was dirs n v : Int) : Int := if was = dirs then v else max v n
def slackD (x : Ax3) (was dirs : Pt) : Int := slk was.z dirs.z x.c.back (slk was.y dirs.y x.b.back (slk was.x dirs.x x.a.back 0))
def pc0 : Pce := ⟨0, 0, 0, 0, ⟨0, 0, 0⟩, ⟨0, 0, 0⟩⟩
def lastP (l : List Pce) : Pce := l.getD (l.length - 1) pc0
def addT (t : Trk) (c : Pce) : Trk :=
 if t.pieces ≠ [] ∧ c.move ≠ 0 ∧ (lastP t.pieces).move = c.move ∧ (lastP t.pieces).dirs = c.dirs then
  { t with pieces := t.pieces.set (t.pieces.length - 1) { lastP t.pieces with units := (lastP t.pieces).units + c.units }, length := t.length + c.units }
 else { t with pieces := t.pieces ++ [{ c with at_ := t.length }], length := t.length + c.units }
def posL (l : List Sgm) (i : Nat) : Int := sumLen (l.take i)
def visit (x : Ax3) (mv : Int) (a b : Pt) (s units : Int) (st : Trk × Pt) : Trk × Pt :=
 (addT (if slackD x st.2 (turnD st.2 a b mv) > 0 then addT st.1 ⟨0, slackD x st.2 (turnD st.2 a b mv), s, 0, st.2, turnD st.2 a b mv⟩ else st.1)
  ⟨0, units, s, mv, turnD st.2 a b mv, turnD st.2 a b mv⟩, turnD st.2 a b mv)
def segT (p : Pth) (x : Ax3) (mv lo hi : Int) (i : Nat) (s : Trk × Pt) : Trk × Pt :=
 if max (posL p.segs i) lo < min (posL p.segs (i + 1)) hi then
  visit x mv (vertL p.start p.segs i) (sgA p.segs i).to (if mv < 0 then min (posL p.segs (i + 1)) hi else max (posL p.segs i) lo) (min (posL p.segs (i + 1)) hi - max (posL p.segs i) lo) s
 else s
def idxT (n : Nat) (mv : Int) (j : Nat) : Nat := if mv < 0 then n - 1 - j else j
def legN (p : Pth) (x : Ax3) (mv lo hi : Int) (t0 : Trk × Pt) : Nat → Trk × Pt
 | 0 => t0
 | j + 1 => segT p x mv lo hi (idxT p.segs.length mv j) (legN p x mv lo hi t0 j)
def clampP (n hi : Int) : Int := max 0 (min n hi)
def legP (p : Pth) (x : Ax3) (d : Pt) (from_ to : Int) : Trk :=
 let n := sumLen p.segs
 let f := clampP from_ n
 let t := clampP to n
 (legN p x (if f > t then -1 else 1) (min f t) (max f t) (⟨[], 0, f, d⟩, d) p.segs.length).1

structure Ax3OK (x : Ax3) : Prop where
 a : 0 ≤ x.a.back ∧ x.a.back ≤ 1000
 b : 0 ≤ x.b.back ∧ x.b.back ≤ 1000
 c : 0 ≤ x.c.back ∧ x.c.back ≤ 1000
theorem slack_bd {x : Ax3} (h : Ax3OK x) (a b : Pt) : 0 ≤ slackD x a b ∧ slackD x a b ≤ 1000 := by
 obtain ⟨h1, h2, h3⟩ := h
 unfold slackD slk
 (repeat' split) <;> omega
structure TB (t : Trk) (n m : Int) : Prop where
 count : (t.pieces.length : Int) ≤ n
 len : 0 ≤ t.length ∧ t.length ≤ m
 each : ∀ c ∈ t.pieces, 0 ≤ c.units ∧ c.units ≤ t.length
theorem lastP_mem {l : List Pce} (h : l ≠ []) : lastP l ∈ l := by
 have hp : 0 < l.length := by cases l with
  | nil => exact absurd rfl h
  | cons _ _ => simp
 have hlt : l.length - 1 < l.length := by omega
 unfold lastP
 rw [List.getD_eq_getElem?_getD, List.getElem?_eq_getElem hlt, Option.getD_some]
 exact List.getElem_mem _
theorem addT_bd {t : Trk} {n m : Int} (h : TB t n m) {c : Pce} {k : Int} (hc : 0 ≤ c.units ∧ c.units ≤ k) : TB (addT t c) (n + 1) (m + k) := by
 obtain ⟨h1, h2, h3⟩ := h
 unfold addT
 by_cases g : t.pieces ≠ [] ∧ c.move ≠ 0 ∧ (lastP t.pieces).move = c.move ∧ (lastP t.pieces).dirs = c.dirs
 ·rw [if_pos g]
  refine ⟨by simp only [List.length_set]; omega, by simp only; omega, ?_⟩
  intro q hq
  rcases List.mem_or_eq_of_mem_set hq with hq | rfl
  ·have := h3 q hq; simp only; omega
  ·have := h3 _ (lastP_mem g.1); simp only; omega
 ·rw [if_neg g]
  refine ⟨by simp only [List.length_append, List.length_cons, List.length_nil]; omega, by simp only; omega, ?_⟩
  intro q hq
  rcases List.mem_append.1 hq with hq | hq
  ·have := h3 q hq; simp only; omega
  ·rw [List.mem_singleton] at hq; subst hq; simp only; omega
theorem addT_keep (t : Trk) (c : Pce) : (addT t c).start = t.start ∧ (addT t c).dirs = t.dirs := by
 unfold addT
 split <;> exact ⟨rfl, rfl⟩
theorem posL_zero (l : List Sgm) : posL l 0 = 0 := by unfold posL; rw [List.take_zero]; rfl
theorem posL_succ {l : List Sgm} {i : Nat} (h : i < l.length) : posL l (i + 1) = posL l i + (sgA l i).len := by
 unfold posL
 rw [List.take_add_one, List.getElem?_eq_getElem h, Option.toList_some, sumLen_snoc, sgA_get h]
theorem posL_len (l : List Sgm) : posL l l.length = sumLen l := by unfold posL; rw [List.take_length]
theorem posL_bd {l : List Sgm} (h : SegOK l) : ∀ i, i ≤ l.length → 0 ≤ posL l i ∧ posL l i ≤ i * 268435456
 | 0, _ => by rw [posL_zero]; simp
 | i + 1, hi => by
  have := posL_bd h i (by omega)
  have := h.seg _ (sgA_mem (show i < l.length by omega))
  rw [posL_succ (by omega)]
  omega
theorem segT_bd {p : Pth} {x : Ax3} {mv lo hi : Int} {i : Nat} {s : Trk × Pt} {n m : Int} (hx : Ax3OK x) (hp : SegOK p.segs) (hi' : i < p.segs.length) (h : TB s.1 n m) : TB (segT p x mv lo hi i s).1 (n + 2) (m + 268436456) := by
 have hl := hp.seg _ (sgA_mem hi')
 have e := posL_succ hi'
 unfold segT
 by_cases c : max (posL p.segs i) lo < min (posL p.segs (i + 1)) hi
 ·rw [if_pos c]
  unfold visit
  have hs := slack_bd hx s.2 (turnD s.2 (vertL p.start p.segs i) (sgA p.segs i).to mv)
  have e1 : n + 2 = n + 1 + 1 := by omega
  have e2 : m + 268436456 = m + 1000 + 268435456 := by omega
  rw [e1, e2]
  refine addT_bd ?_ (by simp only; omega)
  by_cases c2 : slackD x s.2 (turnD s.2 (vertL p.start p.segs i) (sgA p.segs i).to mv) > 0
  ·rw [if_pos c2]; exact addT_bd h (by simp only; omega)
  ·rw [if_neg c2]; exact ⟨by have := h.count; omega, by have := h.len; omega, h.each⟩
 ·rw [if_neg c]; exact ⟨by have := h.count; omega, by have := h.len; omega, h.each⟩
theorem idxT_lt {n j : Nat} (mv : Int) (h : j < n) : idxT n mv j < n := by unfold idxT; split <;> omega
theorem legN_bd {p : Pth} {x : Ax3} {mv lo hi f : Int} {d : Pt} (hx : Ax3OK x) (hp : SegOK p.segs) : ∀ j, j ≤ p.segs.length → TB (legN p x mv lo hi (⟨[], 0, f, d⟩, d) j).1 (j * 2) (j * 268436456)
 | 0, _ => ⟨by simp [legN], by simp [legN], by simp [legN]⟩
 | j + 1, hj => by
  have h := segT_bd (mv := mv) (lo := lo) (hi := hi) hx hp (idxT_lt mv (show j < p.segs.length by omega)) (legN_bd (mv := mv) (lo := lo) (hi := hi) (f := f) (d := d) hx hp j (by omega))
  rw [legN]
  have e1 : ((j + 1 : Nat) : Int) * 2 = j * 2 + 2 := by omega
  have e2 : ((j + 1 : Nat) : Int) * 268436456 = j * 268436456 + 268436456 := by omega
  rw [e1, e2]; exact h
theorem segT_keep {p : Pth} {x : Ax3} {mv lo hi : Int} {i : Nat} (s : Trk × Pt) : (segT p x mv lo hi i s).1.start = s.1.start ∧ (segT p x mv lo hi i s).1.dirs = s.1.dirs := by
 unfold segT
 by_cases c : max (posL p.segs i) lo < min (posL p.segs (i + 1)) hi
 ·rw [if_pos c]
  unfold visit
  simp only [addT_keep]
  by_cases c2 : slackD x s.2 (turnD s.2 (vertL p.start p.segs i) (sgA p.segs i).to mv) > 0
  ·rw [if_pos c2]; simp only [addT_keep]; exact ⟨trivial, trivial⟩
  ·rw [if_neg c2]; exact ⟨rfl, rfl⟩
 ·rw [if_neg c]; exact ⟨rfl, rfl⟩
end Go.Bm
/- tracks: the chain of the pieces of a way -/
set_option maxRecDepth 100000
namespace Go.Bm
open Classical

def chain (x : Ax3) (mv : Int) (Q : Int → Pt → Prop) : Int → Int → Pt → List Pce → Prop
 | _, _, _, [] => True
 | at_, s, d, c :: l => c.at_ = at_ ∧ c.s = s ∧ 1 ≤ c.units ∧ ((c.move = mv ∧ c.was = c.dirs ∧ slackD x d c.dirs = 0 ∧ ∀ k, 0 ≤ k → k < c.units → Q (s + mv * k) c.dirs) ∨ (c.move = 0 ∧ c.was = d ∧ c.units = slackD x d c.dirs)) ∧ chain x mv Q (at_ + c.units) (s + c.move * c.units) c.dirs l
def endAt : Int → List Pce → Int
 | a, [] => a
 | a, c :: l => endAt (a + c.units) l
def endQ : Int → List Pce → Int
 | s, [] => s
 | s, c :: l => endQ (s + c.move * c.units) l
def endD : Pt → List Pce → Pt
 | d, [] => d
 | _, c :: l => endD c.dirs l
theorem endAt_snoc (c : Pce) : ∀ (a : Int) (l : List Pce), endAt a (l ++ [c]) = endAt a l + c.units
 | _, [] => rfl
 | _, k :: l => endAt_snoc c _ l
theorem endQ_snoc (c : Pce) : ∀ (s : Int) (l : List Pce), endQ s (l ++ [c]) = endQ s l + c.move * c.units
 | _, [] => rfl
 | _, k :: l => endQ_snoc c _ l
theorem endD_snoc (c : Pce) : ∀ (d : Pt) (l : List Pce), endD d (l ++ [c]) = c.dirs
 | _, [] => rfl
 | _, k :: l => endD_snoc c _ l
theorem chain_snoc {x : Ax3} {mv : Int} {Q : Int → Pt → Prop} {c : Pce} : ∀ {at_ s : Int} {d : Pt} {l : List Pce},
  chain x mv Q at_ s d (l ++ [c]) ↔ chain x mv Q at_ s d l ∧ c.at_ = endAt at_ l ∧ c.s = endQ s l ∧ 1 ≤ c.units ∧ ((c.move = mv ∧ c.was = c.dirs ∧ slackD x (endD d l) c.dirs = 0 ∧ ∀ k, 0 ≤ k → k < c.units → Q (endQ s l + mv * k) c.dirs) ∨ (c.move = 0 ∧ c.was = endD d l ∧ c.units = slackD x (endD d l) c.dirs))
 | at_, s, d, [] => by
  simp only [List.nil_append, chain, endAt, endQ, endD, and_true, true_and]
 | at_, s, d, k :: l => by
  simp only [List.cons_append, chain, endAt, endQ, endD]
  rw [chain_snoc]
  constructor
  ·rintro ⟨h1, h2, h4, h5, h6, h7⟩; exact ⟨⟨h1, h2, h4, h5, h6⟩, h7⟩
  ·rintro ⟨⟨h1, h2, h4, h5, h6⟩, h7⟩; exact ⟨h1, h2, h4, h5, h6, h7⟩
theorem set_last {l : List Pce} (h : l ≠ []) (v : Pce) : l.set (l.length - 1) v = l.dropLast ++ [v] := by
 have e := List.dropLast_concat_getLast h
 have hl : l.length - 1 = l.dropLast.length := by rw [List.length_dropLast]
 conv => lhs; arg 1; rw [← e]
 rw [hl, List.set_append_right _ _ (Nat.le_refl _), Nat.sub_self]
 rfl
theorem lastP_eq {l : List Pce} (h : l ≠ []) : l.dropLast ++ [lastP l] = l := by
 have e := List.dropLast_concat_getLast h
 have hp : 0 < l.length := by
  cases l with
  | nil => exact absurd rfl h
  | cons _ _ => simp
 have hlt : l.length - 1 < l.length := by omega
 have hl : lastP l = l.getLast h := by
  unfold lastP
  rw [List.getD_eq_getElem?_getD, List.getElem?_eq_getElem hlt, Option.getD_some, List.getLast_eq_getElem]
 rw [hl]; exact e
structure TC (x : Ax3) (mv : Int) (Q : Int → Pt → Prop) (t : Trk) (s : Int) (d : Pt) : Prop where
 ch : chain x mv Q 0 t.start t.dirs t.pieces
 len : endAt 0 t.pieces = t.length
 s : endQ t.start t.pieces = s
 d : endD t.dirs t.pieces = d
theorem addT_chain {x : Ax3} {mv : Int} {Q : Int → Pt → Prop} {t : Trk} {s : Int} {d : Pt} (hm : mv ≠ 0) (h : TC x mv Q t s d) {c : Pce} (hs : c.s = s) (hu : 1 ≤ c.units)
  (hc : (c.move = mv ∧ c.was = c.dirs ∧ slackD x d c.dirs = 0 ∧ ∀ k, 0 ≤ k → k < c.units → Q (s + mv * k) c.dirs) ∨ (c.move = 0 ∧ c.was = d ∧ c.units = slackD x d c.dirs)) : TC x mv Q (addT t c) (s + c.move * c.units) c.dirs := by
 obtain ⟨h1, h2, h3, h4⟩ := h
 unfold addT
 by_cases g : t.pieces ≠ [] ∧ c.move ≠ 0 ∧ (lastP t.pieces).move = c.move ∧ (lastP t.pieces).dirs = c.dirs
 ·rw [if_pos g]
  obtain ⟨g1, g2, g3, g4⟩ := g
  have e := lastP_eq g1
  rw [set_last g1]
  rw [← e] at h1 h2 h3 h4
  rw [chain_snoc] at h1
  rw [endAt_snoc] at h2
  rw [endQ_snoc] at h3
  rw [endD_snoc] at h4
  generalize t.pieces.dropLast = I at *
  generalize lastP t.pieces = L at *
  obtain ⟨k0, k1, k2, k4, k5⟩ := h1
  replace hc := hc.resolve_right fun h => g2 h.1
  replace k5 := k5.resolve_right fun h => g2 (g3 ▸ h.1)
  obtain ⟨c1, c2, -, c3⟩ := hc
  obtain ⟨q1, q2, q4, q3⟩ := k5
  refine ⟨?_, ?_, ?_, ?_⟩
  ·show chain x mv Q 0 t.start t.dirs (I ++ [_])
   rw [chain_snoc]
   refine ⟨k0, k1, k2, by simp only; omega, .inl ⟨q1, q2, q4, ?_⟩⟩
   intro k hk0 hk1
   simp only at hk1
   by_cases hlt : k < L.units
   ·exact q3 k hk0 hlt
   ·have := c3 (k - L.units) (by omega) (by omega)
    rw [← h3, q1, ← g4] at this
    have ea : endQ t.start I + mv * L.units + mv * (k - L.units) = endQ t.start I + mv * k := by rw [Int.mul_sub]; omega
    rw [ea] at this; exact this
  ·show endAt 0 (I ++ [_]) = t.length + c.units
   rw [endAt_snoc]; simp only; omega
  ·show endQ t.start (I ++ [_]) = s + c.move * c.units
   rw [endQ_snoc]
   simp only
   rw [g3] at h3 ⊢
   rw [Int.mul_add]; omega
  ·show endD t.dirs (I ++ [_]) = c.dirs
   rw [endD_snoc]; exact g4
 ·rw [if_neg g]
  refine ⟨?_, ?_, ?_, ?_⟩
  ·show chain x mv Q 0 t.start t.dirs (t.pieces ++ [_])
   rw [chain_snoc]
   refine ⟨h1, h2.symm, by rw [h3]; exact hs, hu, ?_⟩
   rw [h3, h4]; exact hc
  ·show endAt 0 (t.pieces ++ [_]) = t.length + c.units
   rw [endAt_snoc, h2]
  ·show endQ t.start (t.pieces ++ [_]) = s + c.move * c.units
   rw [endQ_snoc, h3]
  ·show endD t.dirs (t.pieces ++ [_]) = c.dirs
   rw [endD_snoc]
theorem slackD_self (x : Ax3) (d : Pt) : slackD x d d = 0 := by unfold slackD slk; simp
theorem visit_chain {x : Ax3} {mv : Int} {Q : Int → Pt → Prop} {t : Trk} {s units : Int} {d a b : Pt} (hm : mv ≠ 0) (hx : ∀ w d, 0 ≤ slackD x w d) (h : TC x mv Q t s d) (hu : 1 ≤ units) (hQ : ∀ k, 0 ≤ k → k < units → Q (s + mv * k) (turnD d a b mv)) :
  TC x mv Q (visit x mv a b s units (t, d)).1 (s + mv * units) (turnD d a b mv) := by
 unfold visit
 simp only
 generalize turnD d a b mv = nx at *
 by_cases c : slackD x d nx > 0
 ·rw [if_pos c]
  have h1 := addT_chain hm h (c := ⟨0, slackD x d nx, s, 0, d, nx⟩) rfl (by simp only; omega) (.inr ⟨rfl, rfl, rfl⟩)
  simp only [Int.zero_mul, Int.add_zero] at h1
  exact addT_chain hm h1 (c := ⟨0, units, s, mv, nx, nx⟩) rfl hu (.inl ⟨rfl, rfl, slackD_self x nx, hQ⟩)
 ·rw [if_neg c]
  have := hx d nx
  exact addT_chain hm h (c := ⟨0, units, s, mv, nx, nx⟩) rfl hu (.inl ⟨rfl, rfl, by simp only; omega, hQ⟩)
def wayS (l : List Sgm) (mv lo hi : Int) (j : Nat) : Int := if mv < 0 then min (max (posL l (l.length - j)) lo) hi else min (max (posL l j) lo) hi
def SegQ (p : Pth) (mv : Int) (Q : Int → Pt → Prop) : Prop := ∀ i, i < p.segs.length → ∀ (d : Pt) (s : Int), posL p.segs i ≤ s → s ≤ posL p.segs (i + 1) → posL p.segs i ≤ s + mv → s + mv ≤ posL p.segs (i + 1) → Q s (turnD d (vertL p.start p.segs i) (sgA p.segs i).to mv)
theorem legN_chain {p : Pth} {x : Ax3} {mv lo hi f : Int} {d : Pt} {Q : Int → Pt → Prop} (hv : mv = 1 ∨ mv = -1) (hx : Ax3OK x) (hp : SegOK p.segs) (hlo : 0 ≤ lo ∧ lo ≤ hi ∧ hi ≤ sumLen p.segs) (hf : (mv = 1 ∧ f = lo) ∨ (mv = -1 ∧ f = hi)) (hQ : SegQ p mv Q) :
  ∀ j, j ≤ p.segs.length → TC x mv Q (legN p x mv lo hi (⟨[], 0, f, d⟩, d) j).1 (wayS p.segs mv lo hi j) (legN p x mv lo hi (⟨[], 0, f, d⟩, d) j).2
 | 0, _ => by
  have hs : wayS p.segs mv lo hi 0 = f := by
   unfold wayS
   have := posL_len p.segs
   rcases hf with ⟨rfl, rfl⟩ | ⟨rfl, rfl⟩
   ·rw [if_neg (by omega), posL_zero]; omega
   ·rw [if_pos (by omega), Nat.sub_zero, this]; omega
  rw [hs]
  exact ⟨trivial, rfl, rfl, rfl⟩
 | j + 1, hj => by
  have ih := legN_chain hv hx hp hlo hf hQ (f := f) (d := d) j (by omega)
  have hil := idxT_lt mv (show j < p.segs.length by omega)
  have hg := hp.seg _ (sgA_mem hil)
  have hsucc := posL_succ hil
  have hq := hQ _ hil
  rw [legN]
  unfold segT
  have hcase : (mv = 1 ∧ idxT p.segs.length mv j = j) ∨ (mv = -1 ∧ idxT p.segs.length mv j = p.segs.length - 1 - j) := by
   unfold idxT
   rcases hv with rfl | rfl
   ·exact .inl ⟨rfl, if_neg (by omega)⟩
   ·exact .inr ⟨rfl, if_pos (by omega)⟩
  have hway : wayS p.segs mv lo hi j = (if mv < 0 then min (max (posL p.segs (idxT p.segs.length mv j + 1)) lo) hi else min (max (posL p.segs (idxT p.segs.length mv j)) lo) hi) ∧
    wayS p.segs mv lo hi (j + 1) = (if mv < 0 then min (max (posL p.segs (idxT p.segs.length mv j)) lo) hi else min (max (posL p.segs (idxT p.segs.length mv j + 1)) lo) hi) := by
   unfold wayS
   rcases hcase with ⟨rfl, e⟩ | ⟨rfl, e⟩
   ·rw [e, if_neg (by omega), if_neg (by omega), if_neg (by omega), if_neg (by omega)]; exact ⟨rfl, rfl⟩
   ·rw [e, if_pos (by omega), if_pos (by omega), if_pos (by omega), if_pos (by omega), show p.segs.length - 1 - j + 1 = p.segs.length - j by omega, show p.segs.length - (j + 1) = p.segs.length - 1 - j by omega]; exact ⟨rfl, rfl⟩
  rw [hway.1] at ih
  rw [hway.2]
  generalize idxT p.segs.length mv j = i at *
  generalize legN p x mv lo hi (⟨[], 0, f, d⟩, d) j = w at *
  obtain ⟨t, dn⟩ := w
  simp only at ih ⊢
  by_cases c : max (posL p.segs i) lo < min (posL p.segs (i + 1)) hi
  ·rw [if_pos c]
   rcases hcase with ⟨rfl, -⟩ | ⟨rfl, -⟩
   ·rw [if_neg (by omega)] at ih ⊢
    rw [if_neg (by omega)]
    have e1 : min (max (posL p.segs i) lo) hi = max (posL p.segs i) lo := by omega
    rw [e1] at ih
    have := visit_chain (a := vertL p.start p.segs i) (b := (sgA p.segs i).to) (units := min (posL p.segs (i + 1)) hi - max (posL p.segs i) lo) (by omega) (fun w d => (slack_bd hx w d).1) ih (by omega) (fun k h0 h1 => hq dn _ (by omega) (by omega) (by omega) (by omega))
    have e2 : max (posL p.segs i) lo + 1 * (min (posL p.segs (i + 1)) hi - max (posL p.segs i) lo) = min (max (posL p.segs (i + 1)) lo) hi := by omega
    rw [e2] at this; exact this
   ·rw [if_pos (by omega)] at ih ⊢
    rw [if_pos (by omega)]
    have e1 : min (max (posL p.segs (i + 1)) lo) hi = min (posL p.segs (i + 1)) hi := by omega
    rw [e1] at ih
    have := visit_chain (a := vertL p.start p.segs i) (b := (sgA p.segs i).to) (units := min (posL p.segs (i + 1)) hi - max (posL p.segs i) lo) (by omega) (fun w d => (slack_bd hx w d).1) ih (by omega) (fun k h0 h1 => hq dn _ (by omega) (by omega) (by omega) (by omega))
    have e2 : min (posL p.segs (i + 1)) hi + -1 * (min (posL p.segs (i + 1)) hi - max (posL p.segs i) lo) = min (max (posL p.segs i) lo) hi := by omega
    rw [e2] at this; exact this
  ·rw [if_neg c]
   have e : (if mv < 0 then min (max (posL p.segs (i + 1)) lo) hi else min (max (posL p.segs i) lo) hi) = (if mv < 0 then min (max (posL p.segs i) lo) hi else min (max (posL p.segs (i + 1)) lo) hi) := by
    split <;> omega
   rw [← e]; exact ih
end Go.Bm
/- tracks: the functions that add a piece, turn the directions and find the greatest backlash -/
set_option maxRecDepth 100000
namespace Go.Bm
open Classical

theorem last_row {l : List Pce} (h : l ≠ []) : nth [] (l.map pceR) (l.length - 1) = pceR (lastP l) := by
 have hp : 0 < l.length := by cases l with
  | nil => exact absurd rfl h
  | cons _ _ => simp
 unfold lastP
 have hlt : l.length - 1 < l.length := by omega
 rw [nth_map _ _ _ _ hlt, List.getD_eq_getElem?_getD, List.getElem?_eq_getElem hlt, Option.getD_some]
theorem pt_iff {a b : Pt} : a = b ↔ a.x = b.x ∧ a.y = b.y ∧ a.z = b.z := pt_ext
theorem a_addT {F : List AC → Option (List AC)} {t : Trk} {c : Pce} {n m k : Int} (h : TB t n m) (hn : n ≤ 10000000) (hm : m ≤ 1000000000000000000) (hk : k ≤ 1000000000000000000) (hc : 0 ≤ c.units ∧ c.units ≤ k)
  (hF : F = mf_cncref29_add ∨ F = mf_track_Leg_1) :
  F [.view kPce (t.pieces.map pceR), I c.at_, I c.units, I c.s, I c.move, I c.was.x, I c.was.y, I c.was.z, I c.dirs.x, I c.dirs.y, I c.dirs.z, I t.length, I t.start, I t.dirs.x, I t.dirs.y, I t.dirs.z] = some (trkR (addT t c)) := by
 obtain ⟨h1, h2, h3⟩ := h
 have hw : IntKind.i64.wrap (t.length + c.units) = t.length + c.units := wrap_id (by omega)
 have hble : ((t.pieces.map pceR ++ [[I t.length, I c.units, I c.s, I c.move, I c.was.x, I c.was.y, I c.was.z, I c.dirs.x, I c.dirs.y, I c.dirs.z]]).length * 80).ble 140737488355328 = true := by
  rw [Nat.ble_eq, List.length_append, List.length_map]; simp only [List.length_cons, List.length_nil]; omega
 have hble' : (t.pieces.map pceR ++ [[I t.length, I c.units, I c.s, I c.move, I c.was.x, I c.was.y, I c.was.z, I c.dirs.x, I c.dirs.y, I c.dirs.z]]).length * 80 ≤ 140737488355328 := Nat.le_of_ble_eq_true hble
 have happ : some [AC.view kPce (t.pieces.map pceR ++ [[I t.length, I c.units, I c.s, I c.move, I c.was.x, I c.was.y, I c.was.z, I c.dirs.x, I c.dirs.y, I c.dirs.z]]), I (t.length + c.units), I t.start, I t.dirs.x, I t.dirs.y, I t.dirs.z] =
   some (trkR { t with pieces := t.pieces ++ [{ c with at_ := t.length }], length := t.length + c.units }) := by
  simp only [trkR, List.map_append, List.map_cons, List.map_nil]
 by_cases c1 : t.pieces = []
 ·have hg : ¬ (t.pieces ≠ [] ∧ c.move ≠ 0 ∧ (lastP t.pieces).move = c.move ∧ (lastP t.pieces).dirs = c.dirs) := fun g => g.1 c1
  unfold addT
  rw [if_neg hg, ← happ]
  rcases hF with rfl | rfl
  ·rw [mf_cncref29_add_eq, List.length_map, bif_neg (by rw [c1]; simp), bif_true hble, hw]
  ·rw [mf_track_Leg_1_eq, List.length_map, bif_neg (by rw [c1]; simp), bif_true hble, hw]
 ·have hp : 0 < t.pieces.length := by
   cases hh : t.pieces with
   | nil => exact absurd hh c1
   | cons _ _ => simp
  have e1 : IntKind.i64.wrap ((t.pieces.length : Int) - 1) = ((t.pieces.length - 1 : Nat) : Int) := by rw [wrap_id (by omega)]; omega
  have hin : (0 : Int) ≤ ((t.pieces.length - 1 : Nat) : Int) ∧ ((t.pieces.length - 1 : Nat) : Int) < (t.pieces.length : Int) := by omega
  have hl := h3 _ (lastP_mem c1)
  have hw2 : IntKind.i64.wrap ((lastP t.pieces).units + c.units) = (lastP t.pieces).units + c.units := wrap_id (by omega)
  have hset : some [AC.view kPce ((t.pieces.map pceR).set (t.pieces.length - 1) [I (lastP t.pieces).at_, I ((lastP t.pieces).units + c.units), I (lastP t.pieces).s, I (lastP t.pieces).move, I (lastP t.pieces).was.x, I (lastP t.pieces).was.y, I (lastP t.pieces).was.z, I (lastP t.pieces).dirs.x, I (lastP t.pieces).dirs.y, I (lastP t.pieces).dirs.z]), I (t.length + c.units), I t.start, I t.dirs.x, I t.dirs.y, I t.dirs.z] =
   some (trkR { t with pieces := t.pieces.set (t.pieces.length - 1) { lastP t.pieces with units := (lastP t.pieces).units + c.units }, length := t.length + c.units }) := by
   simp only [trkR, List.map_set]
  have hr := last_row c1
  have main : ∀ R, R = (if c.move ≠ 0 then if (lastP t.pieces).move = c.move then if (lastP t.pieces).dirs.x = c.dirs.x ∧ (lastP t.pieces).dirs.y = c.dirs.y ∧ (lastP t.pieces).dirs.z = c.dirs.z then
    some (trkR { t with pieces := t.pieces.set (t.pieces.length - 1) { lastP t.pieces with units := (lastP t.pieces).units + c.units }, length := t.length + c.units })
    else some (trkR { t with pieces := t.pieces ++ [{ c with at_ := t.length }], length := t.length + c.units }) else some (trkR { t with pieces := t.pieces ++ [{ c with at_ := t.length }], length := t.length + c.units }) else some (trkR { t with pieces := t.pieces ++ [{ c with at_ := t.length }], length := t.length + c.units })) → R = some (trkR (addT t c)) := by
   intro R hR
   rw [hR]
   unfold addT
   by_cases g1 : c.move ≠ 0
   ·by_cases g2 : (lastP t.pieces).move = c.move
    ·by_cases g3 : (lastP t.pieces).dirs.x = c.dirs.x ∧ (lastP t.pieces).dirs.y = c.dirs.y ∧ (lastP t.pieces).dirs.z = c.dirs.z
     ·rw [if_pos g1, if_pos g2, if_pos g3, if_pos ⟨c1, g1, g2, pt_iff.2 g3⟩]
     ·rw [if_pos g1, if_pos g2, if_neg g3, if_neg fun g => g3 (pt_iff.1 g.2.2.2)]
    ·rw [if_pos g1, if_neg g2, if_neg fun g => g2 g.2.2.1]
   ·rw [if_neg g1, if_neg fun g => g1 g.2.1]
  refine main _ ?_
  rw [← happ, ← hset]
  rcases hF with rfl | rfl
  ·rw [mf_cncref29_add_eq, List.length_map, e1, Int.toNat_natCast, hr]
   simp only [go_sem, hw, hw2, if_pos hin, if_pos hble']
   rw [if_pos (by omega)]
   simp only [and_true]
  ·rw [mf_track_Leg_1_eq, List.length_map, e1, Int.toNat_natCast, hr]
   simp only [go_sem, hw, hw2, if_pos hin, if_pos hble']
   rw [if_pos (by omega)]
   simp only [and_true]
theorem s_slack (x : Ax3) (w d : Pt) : m_cncref29_slack (ax3R x ++ [I w.x, I w.y, I w.z, I d.x, I d.y, I d.z]) = some [I (slackD x w d)] := by
 have he := mf_cncref29_slack_eq x.a.step x.a.speed x.a.accel x.a.jerk x.a.low x.a.high x.a.back x.a.origin x.a.spacing (x.a.pitch.map intR) x.b.step x.b.speed x.b.accel x.b.jerk x.b.low x.b.high x.b.back x.b.origin x.b.spacing (x.b.pitch.map intR) x.c.step x.c.speed x.c.accel x.c.jerk x.c.low x.c.high x.c.back x.c.origin x.c.spacing (x.c.pitch.map intR) w.x w.y w.z d.x d.y d.z
 unfold m_cncref29_slack
 refine Eq.trans he ?_
 unfold slackD slk
 simp only [go_sem, mx_eq]
 (repeat' split) <;> first | rfl | (exfalso; omega)
theorem s_clamp {n hi : Int} : m_track_clamp [I n, I hi] = some [I (clampP n hi)] := by
 unfold m_track_clamp
 rw [mf_track_clamp_eq]
 simp only [mn_eq, mx_eq]
 rfl
theorem a_facing {M : List AC → Option (List AC)} {p : Pth} (hp : GoodPath p) {i : Nat} (hi : i < p.segs.length) (d : Pt) {mv : Int} (hm : mv = 1 ∨ mv = -1) (hB : M (pthR p ++ [I i]) = some (ptR (vertL p.start p.segs i))) :
  mf_cncref29_facing M (pthR p ++ [I d.x, I d.y, I d.z, I i, I mv]) = some (ptR (turnD d (vertL p.start p.segs i) (sgA p.segs i).to mv)) := by
 have he := mf_cncref29_facing_eq M p.start.x p.start.y p.start.z (p.segs.map sgmR) (p.marks.map mrkR) d.x d.y d.z i mv
 refine Eq.trans he ?_
 simp only [List.cons_append, List.nil_append, pthR] at hB
 have hok := hp.ok
 have hg := (hok.seg _ (sgA_mem hi)).2.2
 have hv := vert_bd hp.start hok hi
 have hc := hok.count
 have hin : (0 : Int) ≤ (i : Int) ∧ (i : Int) < (p.segs.length : Int) := by omega
 have key : ∀ u v : Int, u.natAbs ≤ B26 → v.natAbs ≤ B26 → IntKind.i64.wrap (IntKind.i64.wrap (u - v) * mv) = (u - v) * mv := by
  intro u v hu hv
  have h1 := sub_nat hu hv
  rw [wrap_nat h1 (by decide)]
  have h2 : (u - v).natAbs ≤ 134217728 := Nat.le_trans h1 (by decide)
  rcases hm with rfl | rfl <;> rw [wrap_id (by omega)]
 have sg : ∀ n u v : Int, turn1 n v u mv = if (u - v) * mv > 0 then 1 else if (u - v) * mv < 0 then -1 else n := by
  intro n u v
  unfold turn1
  rcases hm with rfl | rfl <;> (repeat' split) <;> omega
 simp only [hB, go_sem, List.length_map, Int.toNat_natCast, row_sgA hi, if_pos hin]
 generalize vertL p.start p.segs i = a at *
 generalize (sgA p.segs i).to = b at *
 rw [key _ _ hg.1 hv.1, key _ _ hg.2.1 hv.2.1, key _ _ hg.2.2 hv.2.2]
 unfold turnD
 simp only [sg, ptR]
 (repeat' split) <;> first | rfl | (exfalso; omega)
theorem s_facing {p : Pth} (hp : GoodPath p) {i : Nat} (hi : i < p.segs.length) (d : Pt) {mv : Int} (hm : mv = 1 ∨ mv = -1) :
  m_cncref29_facing (pthR p ++ [I d.x, I d.y, I d.z, I i, I mv]) = some (ptR (turnD d (vertL p.start p.segs i) (sgA p.segs i).to mv)) := a_facing hp hi d hm (s_ref_Begin hi hp.count)
end Go.Bm
/- tracks: the loops over the segments, by the reference and by the program -/
set_option maxRecDepth 100000
namespace Go.Bm
open Classical

def AddOK (MA : List AC → Option (List AC)) : Prop := ∀ {t : Trk} {c : Pce} {n m k : Int}, TB t n m → n ≤ 10000000 → m ≤ 1000000000000000000 → k ≤ 1000000000000000000 → (0 ≤ c.units ∧ c.units ≤ k) →
 MA [.view kPce (t.pieces.map pceR), I c.at_, I c.units, I c.s, I c.move, I c.was.x, I c.was.y, I c.was.z, I c.dirs.x, I c.dirs.y, I c.dirs.z, I t.length, I t.start, I t.dirs.x, I t.dirs.y, I t.dirs.z] = some (trkR (addT t c))
abbrev refS (p : Pth) (x : Ax3) (f to mv : Int) (t : Trk) (now : Pt) (b : Int) (j : Nat) : List AC :=
 [.view kPce [], .view kPce (t.pieces.map pceR), I f, I to, I mv, I b, I p.segs.length, I j, I p.start.x, I p.start.y, I p.start.z, .view kSgm (p.segs.map sgmR), .view kMrk (p.marks.map mrkR), I x.a.step, I x.a.speed, I x.a.accel, I x.a.jerk, I x.a.low, I x.a.high, I x.a.back, I x.a.origin, I x.a.spacing, .view kInts (x.a.pitch.map intR), I x.b.step, I x.b.speed, I x.b.accel, I x.b.jerk, I x.b.low, I x.b.high, I x.b.back, I x.b.origin, I x.b.spacing, .view kInts (x.b.pitch.map intR), I x.c.step, I x.c.speed, I x.c.accel, I x.c.jerk, I x.c.low, I x.c.high, I x.c.back, I x.c.origin, I x.c.spacing, .view kInts (x.c.pitch.map intR), I 0, I 0, I 0, I 0, I 0, I t.length, I t.start, I t.dirs.x, I t.dirs.y, I t.dirs.z, I now.x, I now.y, I now.z]
def refB (l : List Sgm) (mv : Int) (j : Nat) : Int := if mv < 0 then posL l (l.length - j) else posL l j
theorem a_refstep {MA MS MF ML : List AC → Option (List AC)} {p : Pth} {x : Ax3} {f to mv : Int} {t : Trk} {now : Pt} {n m : Int} {j : Nat} (hv : mv = 1 ∨ mv = -1) (hp : GoodPath p) (hx : Ax3OK x) (h : TB t n m) (hn : n ≤ 9000000) (hm : m ≤ 900000000000000000)
  (hf : 0 ≤ f ∧ f ≤ 263886834032640) (ht : 0 ≤ to ∧ to ≤ 263886834032640) (hj : j < p.segs.length) (hA : AddOK MA) (hS : ∀ w d : Pt, MS (ax3R x ++ [I w.x, I w.y, I w.z, I d.x, I d.y, I d.z]) = some [I (slackD x w d)])
  (hF : ∀ {i : Nat} (d : Pt), i < p.segs.length → MF (pthR p ++ [I d.x, I d.y, I d.z, I i, I mv]) = some (ptR (turnD d (vertL p.start p.segs i) (sgA p.segs i).to mv))) :
  st_cncref29_Leg_11 MA MS MF ML (refS p x f to mv t now (refB p.segs mv j) j) = some (0, refS p x f to mv (segT p x mv (min f to) (max f to) (idxT p.segs.length mv j) (t, now)).1 (segT p x mv (min f to) (max f to) (idxT p.segs.length mv j) (t, now)).2 (refB p.segs mv (j + 1)) (j + 1)) := by
 have hok := hp.ok
 have hcnt := hok.count
 have hil0 := idxT_lt mv hj
 have hcase : (mv = 1 ∧ idxT p.segs.length mv j = j) ∨ (mv = -1 ∧ idxT p.segs.length mv j = p.segs.length - 1 - j) := by
  unfold idxT
  rcases hv with rfl | rfl
  ·exact .inl ⟨rfl, if_neg (by omega)⟩
  ·exact .inr ⟨rfl, if_pos (by omega)⟩
 obtain ⟨i, hi⟩ : ∃ i, idxT p.segs.length mv j = i := ⟨_, rfl⟩
 rw [hi] at hil0 hcase ⊢
 have hil : i < p.segs.length := hil0
 have hg := hok.seg _ (sgA_mem hil)
 have hr := row_sgA hil
 have hpos := posL_bd hok i (by omega)
 have hsucc := posL_succ hil
 have hF' := hF now hil
 have hin : (0 : Int) ≤ (i : Nat) ∧ ((i : Nat) : Int) < (p.segs.length : Int) := by omega
 have hin0 : (j : Int) < (p.segs.length : Int) := by omega
 have e1 : IntKind.i64.wrap ((j : Int) + 1) = ((j + 1 : Nat) : Int) := by rw [wrap_id (by omega)]; omega
 have eB : IntKind.i64.wrap (refB p.segs mv j + IntKind.i64.wrap (mv * (sgA p.segs i).len)) = refB p.segs mv (j + 1) ∧ max (min (refB p.segs mv j) (refB p.segs mv (j + 1))) (min f to) = max (posL p.segs i) (min f to) ∧
   min (max (refB p.segs mv j) (refB p.segs mv (j + 1))) (max f to) = min (posL p.segs (i + 1)) (max f to) := by
  unfold refB
  rcases hcase with ⟨rfl, rfl⟩ | ⟨rfl, ei⟩
  ·rw [if_neg (by omega), if_neg (by omega), Int.one_mul, hsucc, wrap_id (x := (sgA p.segs i).len) (by omega), wrap_id (by omega)]
   refine ⟨rfl, ?_, ?_⟩ <;> omega
  ·rw [if_pos (by omega), if_pos (by omega), show p.segs.length - j = i + 1 by omega, show p.segs.length - (j + 1) = i by omega, hsucc, wrap_id (x := -1 * (sgA p.segs i).len) (by omega), wrap_id (by omega)]
   refine ⟨by omega, ?_, ?_⟩ <;> omega
 obtain ⟨eB, eL, eH⟩ := eB
 have hI : IntKind.i64.wrap (IntKind.i64.wrap ((p.segs.length : Int) - 1) - (j : Int)) = ((p.segs.length - 1 - j : Nat) : Int) := by rw [wrap_id (x := (p.segs.length : Int) - 1) (by omega), wrap_id (by omega)]; omega
 have hS' := hS now (turnD now (vertL p.start p.segs i) (sgA p.segs i).to mv)
 have hb := slack_bd hx now (turnD now (vertL p.start p.segs i) (sgA p.segs i).to mv)
 unfold segT visit
 simp only [ax3R, pthR, List.cons_append, List.nil_append] at hS' hF' ⊢
 rw [st_cncref29_Leg_11_eq]
 have fin : ∀ (sp : Int), sp = (if mv < 0 then min (posL p.segs (i + 1)) (max f to) else max (posL p.segs i) (min f to)) → max (posL p.segs i) (min f to) < min (posL p.segs (i + 1)) (max f to) → ∀ nx, nx = turnD now (vertL p.start p.segs i) (sgA p.segs i).to mv → True := fun _ _ _ _ _ => trivial
 clear fin
 generalize turnD now (vertL p.start p.segs i) (sgA p.segs i).to mv = nx at *
 have hd : min (posL p.segs (i + 1)) (max f to) - max (posL p.segs i) (min f to) ≤ 268435456 := by omega
 have hwd : max (posL p.segs i) (min f to) < min (posL p.segs (i + 1)) (max f to) → IntKind.i64.wrap (min (posL p.segs (i + 1)) (max f to) - max (posL p.segs i) (min f to)) = min (posL p.segs (i + 1)) (max f to) - max (posL p.segs i) (min f to) := fun _ => wrap_id (by omega)
 have add2 : ∀ sp : Int, max (posL p.segs i) (min f to) < min (posL p.segs (i + 1)) (max f to) → slackD x now nx > 0 →
   MA [.view kPce (t.pieces.map pceR), I 0, I (slackD x now nx), I sp, I 0, I now.x, I now.y, I now.z, I nx.x, I nx.y, I nx.z, I t.length, I t.start, I t.dirs.x, I t.dirs.y, I t.dirs.z] = some (trkR (addT t ⟨0, slackD x now nx, sp, 0, now, nx⟩)) ∧
   MA [.view kPce ((addT t ⟨0, slackD x now nx, sp, 0, now, nx⟩).pieces.map pceR), I 0, I (min (posL p.segs (i + 1)) (max f to) - max (posL p.segs i) (min f to)), I sp, I mv, I nx.x, I nx.y, I nx.z, I nx.x, I nx.y, I nx.z, I (addT t ⟨0, slackD x now nx, sp, 0, now, nx⟩).length, I (addT t ⟨0, slackD x now nx, sp, 0, now, nx⟩).start, I (addT t ⟨0, slackD x now nx, sp, 0, now, nx⟩).dirs.x, I (addT t ⟨0, slackD x now nx, sp, 0, now, nx⟩).dirs.y, I (addT t ⟨0, slackD x now nx, sp, 0, now, nx⟩).dirs.z] =
    some (trkR (addT (addT t ⟨0, slackD x now nx, sp, 0, now, nx⟩) ⟨0, min (posL p.segs (i + 1)) (max f to) - max (posL p.segs i) (min f to), sp, mv, nx, nx⟩)) := by
  intro sp hlt hs
  have hb2 := addT_bd (k := 1000) h (c := ⟨0, slackD x now nx, sp, 0, now, nx⟩) (by simp only; omega)
  exact ⟨hA (c := ⟨0, slackD x now nx, sp, 0, now, nx⟩) h (by omega) (by omega) (k := 1000) (by omega) (by simp only; omega), hA (c := ⟨0, _, sp, mv, nx, nx⟩) hb2 (by omega) (by omega) (k := 268435456) (by omega) (by simp only; omega)⟩
 have add1 : ∀ sp : Int, max (posL p.segs i) (min f to) < min (posL p.segs (i + 1)) (max f to) →
   MA [.view kPce (t.pieces.map pceR), I 0, I (min (posL p.segs (i + 1)) (max f to) - max (posL p.segs i) (min f to)), I sp, I mv, I nx.x, I nx.y, I nx.z, I nx.x, I nx.y, I nx.z, I t.length, I t.start, I t.dirs.x, I t.dirs.y, I t.dirs.z] =
    some (trkR (addT t ⟨0, min (posL p.segs (i + 1)) (max f to) - max (posL p.segs i) (min f to), sp, mv, nx, nx⟩)) := by
  intro sp hlt
  exact hA (c := ⟨0, _, sp, mv, nx, nx⟩) h (by omega) (by omega) (k := 268435456) (by omega) (by simp only; omega)
 rcases hcase with ⟨rfl, rfl⟩ | ⟨rfl, ei⟩
 ·generalize max (posL p.segs i) (min f to) = first at *
  generalize min (posL p.segs (i + 1)) (max f to) = last at *
  simp only [go_sem, List.length_map, Int.toNat_natCast, hr, if_pos hin, if_pos hin0, hF', hS', mx_eq, mn_eq, ↓eB, eL, eH, e1]
  rw [if_neg (by omega)]
  by_cases c : first < last
  ·rw [if_pos c, if_pos c, hwd c]
   by_cases c2 : slackD x now nx > 0
   ·obtain ⟨a1, a2⟩ := add2 first c c2
    simp only [if_pos c2, a1, trkR, go_sem, a2]
    rfl
   ·have a1 := add1 first c
    simp only [if_neg c2, a1, trkR, go_sem]
    rfl
  ·rw [if_neg c, if_neg c]
 ·rw [← ei] at hI
  generalize max (posL p.segs i) (min f to) = first at *
  generalize min (posL p.segs (i + 1)) (max f to) = last at *
  simp only [go_sem, List.length_map, hI, Int.toNat_natCast, hr, if_pos hin, if_pos hin0, hF', hS', mx_eq, mn_eq, ↓eB, eL, eH, e1]
  rw [if_pos (by omega)]
  by_cases c : first < last
  ·rw [if_pos c, if_pos c, hwd c]
   by_cases c2 : slackD x now nx > 0
   ·obtain ⟨a1, a2⟩ := add2 last c c2
    simp only [if_pos c2, a1, trkR, go_sem, a2]
    rfl
   ·have a1 := add1 last c
    simp only [if_neg c2, a1, trkR, go_sem]
    rfl
  ·rw [if_neg c, if_neg c]
end Go.Bm
/- tracks: the way between two positions, by the reference and by the program -/
set_option maxRecDepth 100000
namespace Go.Bm
open Classical

theorem l_refLeg {p : Pth} {x : Ax3} {f to mv : Int} {d : Pt} (hv : mv = 1 ∨ mv = -1) (hp : GoodPath p) (hx : Ax3OK x) (hf : 0 ≤ f ∧ f ≤ 263886834032640) (ht : 0 ≤ to ∧ to ≤ 263886834032640) : ∀ (k j : Nat), j + k = p.segs.length → ∀ w, w = legN p x mv (min f to) (max f to) (⟨[], 0, f, d⟩, d) j →
  loopC (st_cncref29_Leg_11 m_cncref29_add m_cncref29_slack m_cncref29_facing m_cncref25_Length) (refS p x f to mv w.1 w.2 (refB p.segs mv j) j) = some (1, .view kPce [] :: .view kPce ((legN p x mv (min f to) (max f to) (⟨[], 0, f, d⟩, d) p.segs.length).1.pieces.map pceR) :: I 0 :: I 0 :: I 0 :: I 0 :: I 0 :: [I (legN p x mv (min f to) (max f to) (⟨[], 0, f, d⟩, d) p.segs.length).1.length, I f, I d.x, I d.y, I d.z])
 | 0, j, hj, w, hw => by
  have hj' : j = p.segs.length := by omega
  refine loop_end (o := (1, _)) ?_ (by simp)
  rw [st_cncref29_Leg_11_eq, bif_neg (by omega)]
  have hk : ∀ j, (legN p x mv (min f to) (max f to) (⟨[], 0, f, d⟩, d) j).1.start = f ∧ (legN p x mv (min f to) (max f to) (⟨[], 0, f, d⟩, d) j).1.dirs = d := by
   intro j
   induction j with
   | zero => exact ⟨rfl, rfl⟩
   | succ j ih => rw [legN, (segT_keep _).1, (segT_keep _).2]; exact ih
  obtain ⟨k1, k2⟩ := hk j
  rw [hw, k1, k2, hj']
 | k + 1, j, hj, w, hw => by
  have hcnt := hp.count
  have hb := legN_bd (mv := mv) (lo := min f to) (hi := max f to) (f := f) (d := d) hx hp.ok j (by omega)
  rw [← hw] at hb
  have hst := a_refstep (MA := m_cncref29_add) (MS := m_cncref29_slack) (MF := m_cncref29_facing) (ML := m_cncref25_Length) (f := f) (to := to) (now := w.2) (j := j) hv hp hx hb (by omega) (by omega) hf ht (by omega) (fun h1 h2 h3 h4 h5 => a_addT h1 h2 h3 h4 h5 (.inl rfl)) (s_slack x) (fun d hi => s_facing hp hi d hv)
  rw [loop_more hst]
  exact l_refLeg hv hp hx hf ht k (j + 1) (by omega) _ (by rw [legN, ← hw])
theorem a_refLeg {MA MS MF ML : List AC → Option (List AC)} {N : List AC → Option (Nat × List AC)} {p : Pth} {x : Ax3} {d : Pt} {from_ to : Int} (hn : 0 ≤ sumLen p.segs) (hL : ML (pthR p) = some [I (sumLen p.segs)])
  (hN : ∀ {f to mv : Int}, (mv = 1 ∨ mv = -1) → (0 ≤ f ∧ f ≤ sumLen p.segs) → (0 ≤ to ∧ to ≤ sumLen p.segs) → N (refS p x f to mv ⟨[], 0, f, d⟩ d (refB p.segs mv 0) 0) = some (1, .view kPce [] :: .view kPce ((legN p x mv (min f to) (max f to) (⟨[], 0, f, d⟩, d) p.segs.length).1.pieces.map pceR) :: I 0 :: I 0 :: I 0 :: I 0 :: I 0 :: [I (legN p x mv (min f to) (max f to) (⟨[], 0, f, d⟩, d) p.segs.length).1.length, I f, I d.x, I d.y, I d.z])) :
  mf_cncref29_Leg MA MS MF ML N (pthR p ++ ax3R x ++ [I d.x, I d.y, I d.z, I from_, I to]) = some (trkR (legP p x d from_ to)) := by
 have he := mf_cncref29_Leg_eq MA MS MF ML N p.start.x p.start.y p.start.z (p.segs.map sgmR) (p.marks.map mrkR) x.a.step x.a.speed x.a.accel x.a.jerk x.a.low x.a.high x.a.back x.a.origin x.a.spacing (x.a.pitch.map intR) x.b.step x.b.speed x.b.accel x.b.jerk x.b.low x.b.high x.b.back x.b.origin x.b.spacing (x.b.pitch.map intR) x.c.step x.c.speed x.c.accel x.c.jerk x.c.low x.c.high x.c.back x.c.origin x.c.spacing (x.c.pitch.map intR) d.x d.y d.z from_ to
 refine Eq.trans he ?_
 have ec : ∀ v : Int, mn (mx v 0) (sumLen p.segs) = clampP v (sumLen p.segs) := by intro v; rw [mn_eq, mx_eq]; unfold clampP; omega
 have hf : 0 ≤ clampP from_ (sumLen p.segs) ∧ clampP from_ (sumLen p.segs) ≤ sumLen p.segs := by unfold clampP; omega
 have ht : 0 ≤ clampP to (sumLen p.segs) ∧ clampP to (sumLen p.segs) ≤ sumLen p.segs := by unfold clampP; omega
 have hk : ∀ mv lo hi f j, (legN p x mv lo hi (⟨[], 0, f, d⟩, d) j).1.start = f ∧ (legN p x mv lo hi (⟨[], 0, f, d⟩, d) j).1.dirs = d := by
  intro mv lo hi f j
  induction j with
  | zero => exact ⟨rfl, rfl⟩
  | succ j ih => rw [legN, (segT_keep _).1, (segT_keep _).2]; exact ih
 have h1 := hN (mv := 1) (.inl rfl) hf ht
 have h2 := hN (mv := -1) (.inr rfl) hf ht
 have e1 : refB p.segs 1 0 = 0 := by unfold refB; rw [if_neg (by omega), posL_zero]
 have e2 : refB p.segs (-1) 0 = sumLen p.segs := by unfold refB; rw [if_pos (by omega), Nat.sub_zero, posL_len]
 rw [e1] at h1
 rw [e2] at h2
 unfold legP
 simp only [pthR] at hL
 simp only [hL, go_sem, ec, List.length_map]
 generalize clampP from_ (sumLen p.segs) = f at *
 generalize clampP to (sumLen p.segs) = t at *
 by_cases c : t < f
 ·have k := hk (-1) (min f t) (max f t) f p.segs.length
  rw [if_pos c]
  simp only [trkR, k.1, k.2]
  simp only [refS, List.map_nil, Int.cast_ofNat_Int] at h2
  simp only [h2, go_sem, c, if_true, k.1, k.2]
 ·have k := hk 1 (min f t) (max f t) f p.segs.length
  rw [if_neg c]
  simp only [trkR, k.1, k.2]
  simp only [refS, List.map_nil, Int.cast_ofNat_Int] at h1
  simp only [h1, go_sem, c, if_false, k.1, k.2]
theorem s_refLeg {p : Pth} {x : Ax3} {d : Pt} {from_ to : Int} (hp : GoodPath p) (hx : Ax3OK x) : m_cncref29_Leg (pthR p ++ ax3R x ++ [I d.x, I d.y, I d.z, I from_, I to]) = some (trkR (legP p x d from_ to)) := by
 have hs := sum_path hp
 exact a_refLeg (N := l_cncref29_Leg_11) hs.1 (s_ref_Length hp.ok) fun {f to mv} hv hf ht => l_refLeg (d := d) hv hp hx (by omega) (by omega) p.segs.length 0 (by omega) _ rfl

end Go.Bm
/- tracks: the piece of a track position, the path position and the take-ups, by the reference and by the program -/
set_option maxRecDepth 100000
namespace Go.Bm
open Classical

def pcA (l : List Pce) (i : Nat) : Pce := l.getD i pc0
def eI (l : List Pce) (i : Nat) : Int := (pcA l i).at_ + (pcA l i).units
def fI : List Pce → Int → Nat
 | [], _ => 0
 | c :: l, u => if u ≤ c.at_ + c.units then 0 else fI l u + 1
theorem pcA_cons (c : Pce) (l : List Pce) (i : Nat) : pcA (c :: l) (i + 1) = pcA l i := by unfold pcA; simp
theorem pcA_zero (c : Pce) (l : List Pce) : pcA (c :: l) 0 = c := by unfold pcA; simp
theorem row_pcA {l : List Pce} {i : Nat} (h : i < l.length) : nth [] (l.map pceR) i = pceR (pcA l i) := by
 have e : pcA l i = l[i] := by unfold pcA; simp [h]
 rw [e]; exact nth_map _ _ _ _ h
theorem fI_lt : ∀ {l : List Pce} {u : Int} {j : Nat}, j < l.length → u ≤ eI l j → fI l u ≤ j
 | c :: l, u, 0, _, h => by
  unfold eI at h; rw [pcA_zero] at h
  unfold fI; rw [if_pos h]; exact Nat.le_refl _
 | c :: l, u, j + 1, hj, h => by
  unfold fI
  by_cases c0 : u ≤ c.at_ + c.units
  ·rw [if_pos c0]; omega
  ·rw [if_neg c0]
   have : fI l u ≤ j := fI_lt (by simpa using hj) (by unfold eI at h ⊢; rw [pcA_cons] at h; exact h)
   omega
theorem fI_spec : ∀ {l : List Pce} {u : Int}, fI l u < l.length → u ≤ eI l (fI l u)
 | [], _, h => by simp at h
 | c :: l, u, h => by
  unfold fI at h ⊢
  by_cases c0 : u ≤ c.at_ + c.units
  ·rw [if_pos c0]; unfold eI; rw [pcA_zero]; exact c0
  ·rw [if_neg c0] at h ⊢
   have := fI_spec (l := l) (u := u) (by simpa using h)
   unfold eI at this ⊢; rw [pcA_cons]; exact this
structure TQ (t : Trk) : Prop where
 count : t.pieces.length ≤ 10000000
 len : 0 ≤ t.length ∧ t.length ≤ 900000000000000
 pos : ∀ i, i < t.pieces.length → 0 ≤ (pcA t.pieces i).at_ ∧ 1 ≤ (pcA t.pieces i).units ∧ eI t.pieces i ≤ t.length
 mono : ∀ i j, i ≤ j → j < t.pieces.length → eI t.pieces i ≤ eI t.pieces j
 last : t.pieces ≠ [] → eI t.pieces (t.pieces.length - 1) = t.length
 start : 0 ≤ t.start ∧ t.start ≤ 263886834032640
 s : ∀ i, i < t.pieces.length → -900000000000000 ≤ (pcA t.pieces i).s ∧ (pcA t.pieces i).s ≤ 2000000000000000
 move : ∀ i, i < t.pieces.length → (pcA t.pieces i).move = 0 ∨ (pcA t.pieces i).move = 1 ∨ (pcA t.pieces i).move = -1
def clT (t : Trk) (u : Int) : Int := clampP u t.length
theorem clT_bd {t : Trk} (h : TQ t) (u : Int) : 0 ≤ clT t u ∧ clT t u ≤ t.length := by have := h.len; unfold clT clampP; omega
def iT (t : Trk) (u : Int) : Nat := fI t.pieces (clT t u)
theorem iT_lt {t : Trk} (h : TQ t) (u : Int) (hne : t.pieces ≠ []) : iT t u < t.pieces.length := by
 have hp : 0 < t.pieces.length := by
  cases hh : t.pieces with
  | nil => exact absurd hh hne
  | cons _ _ => simp
 have := fI_lt (l := t.pieces) (u := clT t u) (j := t.pieces.length - 1) (by omega) (by rw [h.last hne]; exact (clT_bd h u).2)
 unfold iT; omega
def placeP (t : Trk) (u : Int) : Int := if t.pieces = [] then t.start else (pcA t.pieces (iT t u)).s + (pcA t.pieces (iT t u)).move * (clT t u - (pcA t.pieces (iT t u)).at_)
def looseP (t : Trk) (u : Int) : Prop := t.pieces ≠ [] ∧ (pcA t.pieces (iT t u)).move = 0 ∧ (pcA t.pieces (iT t u)).at_ < clT t u ∧ clT t u < eI t.pieces (iT t u)

theorem l_piece {t : Trk} (h : TQ t) {u : Int} : ∀ (k j : Nat), j + k = t.pieces.length → j ≤ fI t.pieces u → fI t.pieces u < t.pieces.length →
  loopC st_cncref29_piece_3 [I u, .view kPce (t.pieces.map pceR), I t.pieces.length, I j] = some (1, [I (fI t.pieces u), I u])
 | 0, j, hj, h1, h2 => by omega
 | k + 1, j, hj, h1, h2 => by
  have hlt : j < t.pieces.length := by omega
  have hcnt := h.count
  have hin : (0 : Int) ≤ (j : Int) ∧ (j : Int) < (t.pieces.length : Int) := by omega
  have hpos := h.pos j hlt
  have hl := h.len
  have hw : IntKind.i64.wrap ((pcA t.pieces j).at_ + (pcA t.pieces j).units) = eI t.pieces j := by unfold eI at hpos ⊢; exact wrap_id (by omega)
  have hst : st_cncref29_piece_3 [I u, .view kPce (t.pieces.map pceR), I t.pieces.length, I j] = if u ≤ eI t.pieces j then some (1, [I j, I u]) else some (0, [I u, .view kPce (t.pieces.map pceR), I t.pieces.length, I (j + 1 : Nat)]) := by
   rw [st_cncref29_piece_3_eq]
   simp only [go_sem, List.length_map, Int.toNat_natCast, row_pcA hlt, if_pos hin, hw, wrap_id (x := (j : Int) + 1) (by omega)]
   rw [if_pos (by omega)]
   rfl
  by_cases c : u ≤ eI t.pieces j
  ·rw [if_pos c] at hst
   have := fI_lt hlt c
   rw [loop_end hst (by simp), show fI t.pieces u = j by omega]
  ·rw [if_neg c] at hst
   have : fI t.pieces u ≠ j := fun e => c (by have := fI_spec h2; rw [e] at this; exact this)
   rw [loop_more hst]
   exact l_piece h k (j + 1) (by omega) (by omega) h2
theorem s_piece {t : Trk} (h : TQ t) (u : Int) : m_cncref29_piece (trkR t ++ [I u]) = some [I (if t.pieces = [] then -1 else (iT t u : Int)), I (clT t u)] := by
 have he := mf_cncref29_piece_eq l_cncref29_piece_3 (t.pieces.map pceR) t.length t.start t.dirs.x t.dirs.y t.dirs.z u
 unfold m_cncref29_piece
 refine Eq.trans he ?_
 have ec : mn (mx u 0) t.length = clT t u := by have := h.len; rw [mn_eq, mx_eq]; unfold clT clampP; omega
 rw [ec, List.length_map]
 by_cases c : t.pieces = []
 ·have hl : l_cncref29_piece_3 [I (clT t u), .view kPce (t.pieces.map pceR), I t.pieces.length, I 0] = some (2, [I (clT t u)]) := by
   refine loop_end (o := (2, _)) ?_ (by simp)
   rw [st_cncref29_piece_3_eq, c, bif_neg (by simp)]
  rw [if_pos c]
  generalize l_cncref29_piece_3 = N at *
  simp only [hl, go_sem]
  rfl
 ·have hi := iT_lt h u c
  have hl := l_piece h (u := clT t u) t.pieces.length 0 (by omega) (by omega) hi
  have hl' : l_cncref29_piece_3 [I (clT t u), .view kPce (t.pieces.map pceR), I t.pieces.length, I 0] = some (1, [I (iT t u : Int), I (clT t u)]) := hl
  rw [if_neg c]
  generalize l_cncref29_piece_3 = N at *
  simp only [hl', go_sem]
theorem l_find {t : Trk} (h : TQ t) {u : Int} (hi : fI t.pieces u < t.pieces.length) : ∀ (k lo hi : Nat), hi - lo ≤ k → lo ≤ fI t.pieces u → fI t.pieces u ≤ hi → hi < t.pieces.length →
  loopC st_track_find_2 [I u, I lo, I hi, .view kPce (t.pieces.map pceR), I t.length, I t.start, I t.dirs.x, I t.dirs.y, I t.dirs.z] = some (1, [I (fI t.pieces u)])
 | k, lo, hi, hk, h1, h2, h3 => by
  have hcnt := h.count
  have hl := h.len
  by_cases c : lo < hi
  ·have em : IntKind.i64.wrap ((IntKind.i64.wrap ((lo : Int) + hi)).tdiv 2) = (((lo + hi) / 2 : Nat) : Int) := by
    rw [wrap_id (x := (lo : Int) + hi) (by omega), Int.tdiv_eq_ediv_of_nonneg (by omega), wrap_id (by omega)]; omega
   have hm1 : lo ≤ (lo + hi) / 2 ∧ (lo + hi) / 2 < hi := by omega
   generalize (lo + hi) / 2 = m at *
   have hlt : m < t.pieces.length := by omega
   have hpos := h.pos m hlt
   have hin : (0 : Int) ≤ (m : Int) ∧ (m : Int) < (t.pieces.length : Int) := by omega
   have hw : IntKind.i64.wrap ((pcA t.pieces m).at_ + (pcA t.pieces m).units) = eI t.pieces m := by unfold eI at hpos ⊢; exact wrap_id (by omega)
   have hst : st_track_find_2 [I u, I lo, I hi, .view kPce (t.pieces.map pceR), I t.length, I t.start, I t.dirs.x, I t.dirs.y, I t.dirs.z] = if u ≤ eI t.pieces m then some (0, [I u, I lo, I m, .view kPce (t.pieces.map pceR), I t.length, I t.start, I t.dirs.x, I t.dirs.y, I t.dirs.z]) else some (0, [I u, I (m + 1 : Nat), I hi, .view kPce (t.pieces.map pceR), I t.length, I t.start, I t.dirs.x, I t.dirs.y, I t.dirs.z]) := by
    rw [st_track_find_2_eq, em]
    simp only [go_sem, List.length_map, Int.toNat_natCast, row_pcA hlt, if_pos hin, hw, wrap_id (x := (m : Int) + 1) (by omega)]
    rw [if_pos (by omega)]
    rfl
   by_cases c2 : u ≤ eI t.pieces m
   ·rw [if_pos c2] at hst
    rw [loop_more hst]
    cases k with
    | zero => omega
    | succ k => exact l_find h (by omega) k lo m (by omega) h1 (fI_lt hlt c2) hlt
   ·rw [if_neg c2] at hst
    rw [loop_more hst]
    have hgt : m < fI t.pieces u := by
     by_cases c3 : fI t.pieces u ≤ m
     ·exact absurd (Int.le_trans (fI_spec (by omega)) (h.mono _ _ c3 hlt)) c2
     ·omega
    cases k with
    | zero => omega
    | succ k => exact l_find h (by omega) k (m + 1) hi (by omega) (by omega) h2 h3
  ·refine loop_end (o := (1, _)) ?_ (by simp)
   rw [st_track_find_2_eq, bif_neg (by omega), show fI t.pieces u = hi by omega]
theorem s_find {t : Trk} (h : TQ t) (u : Int) : m_track_find (trkR t ++ [I (clT t u)]) = some [I (if t.pieces = [] then -1 else (iT t u : Int))] := by
 have he := mf_track_find_eq l_track_find_2 (t.pieces.map pceR) t.length t.start t.dirs.x t.dirs.y t.dirs.z (clT t u)
 unfold m_track_find
 refine Eq.trans he ?_
 rw [List.length_map]
 have hcnt := h.count
 by_cases c : t.pieces = []
 ·have hl : l_track_find_2 [I (clT t u), I 0, I (-1), .view kPce (t.pieces.map pceR), I t.length, I t.start, I t.dirs.x, I t.dirs.y, I t.dirs.z] = some (1, [I (-1)]) := by
   refine loop_end (o := (1, _)) ?_ (by simp)
   rw [st_track_find_2_eq, bif_neg (by omega)]
  have e1 : IntKind.i64.wrap ((t.pieces.length : Int) - 1) = -1 := by rw [c]; rfl
  rw [if_pos c, e1]
  generalize l_track_find_2 = N at *
  simp only [hl, go_sem]
 ·have hp : 0 < t.pieces.length := by
   cases hh : t.pieces with
   | nil => exact absurd hh c
   | cons _ _ => simp
  have hi := iT_lt h u c
  have hl := l_find h (u := clT t u) hi t.pieces.length 0 (t.pieces.length - 1) (by omega) (by omega) (by unfold iT at hi; omega) (by omega)
  have hl' : l_track_find_2 [I (clT t u), I 0, I (t.pieces.length - 1 : Nat), .view kPce (t.pieces.map pceR), I t.length, I t.start, I t.dirs.x, I t.dirs.y, I t.dirs.z] = some (1, [I (iT t u : Int)]) := hl
  have e1 : IntKind.i64.wrap ((t.pieces.length : Int) - 1) = ((t.pieces.length - 1 : Nat) : Int) := by rw [wrap_id (by omega)]; omega
  rw [if_neg c, e1]
  generalize l_track_find_2 = N at *
  simp only [hl', go_sem]
theorem place_wrap {t : Trk} (h : TQ t) (u : Int) (hne : t.pieces ≠ []) :
  IntKind.i64.wrap ((pcA t.pieces (iT t u)).s + IntKind.i64.wrap ((pcA t.pieces (iT t u)).move * IntKind.i64.wrap (clT t u - (pcA t.pieces (iT t u)).at_))) = placeP t u := by
 have hi := iT_lt h u hne
 have h1 := h.pos _ hi
 have h2 := h.s _ hi
 have h3 := h.move _ hi
 have h4 := clT_bd h u
 have h5 := h.len
 unfold placeP eI at *
 rw [if_neg hne, wrap_id (x := clT t u - _) (by omega)]
 generalize pcA t.pieces (iT t u) = c at *
 have hb : (-900000000000000 ≤ c.move * (clT t u - c.at_) ∧ c.move * (clT t u - c.at_) ≤ 900000000000000) := by
  rcases h3 with h3 | h3 | h3 <;> rw [h3] <;> omega
 rw [wrap_id (x := c.move * _) (by omega), wrap_id (by omega)]
theorem a_refPlace {M : List AC → Option (List AC)} {t : Trk} (h : TQ t) {u : Int} (hM : M (trkR t ++ [I u]) = some [I (if t.pieces = [] then -1 else (iT t u : Int)), I (clT t u)]) : mf_cncref29_Place M (trkR t ++ [I u]) = some [I (placeP t u)] := by
 have he := mf_cncref29_Place_eq M (t.pieces.map pceR) t.length t.start t.dirs.x t.dirs.y t.dirs.z u
 refine Eq.trans he ?_
 simp only [trkR, List.cons_append, List.nil_append] at hM
 by_cases c : t.pieces = []
 ·rw [if_pos c] at hM
  simp only [hM, go_sem]
  rw [if_pos (by omega)]
  unfold placeP; rw [if_pos c]
 ·have hi := iT_lt h u c
  have hcnt := h.count
  have hin : (0 : Int) ≤ (iT t u : Int) ∧ (iT t u : Int) < (t.pieces.length : Int) := by omega
  rw [if_neg c] at hM
  simp only [hM, go_sem, List.length_map, if_pos hin, Int.toNat_natCast, row_pcA hi, place_wrap h u c]
  rw [if_neg (by omega)]
theorem s_refPlace {t : Trk} (h : TQ t) (u : Int) : m_cncref29_Place (trkR t ++ [I u]) = some [I (placeP t u)] := a_refPlace h (s_piece h u)
theorem a_Place {MF MC : List AC → Option (List AC)} {t : Trk} (h : TQ t) {u : Int} (hC : MC [I u, I t.length] = some [I (clT t u)]) (hM : MF (trkR t ++ [I (clT t u)]) = some [I (if t.pieces = [] then -1 else (iT t u : Int))]) : mf_track_Place MF MC (trkR t ++ [I u]) = some [I (placeP t u)] := by
 have he := mf_track_Place_eq MF MC (t.pieces.map pceR) t.length t.start t.dirs.x t.dirs.y t.dirs.z u
 refine Eq.trans he ?_
 simp only [trkR, List.cons_append, List.nil_append] at hM
 by_cases c : t.pieces = []
 ·rw [if_pos c] at hM
  simp only [hC, hM, go_sem]
  rw [if_pos (by omega)]
  unfold placeP; rw [if_pos c]
 ·have hi := iT_lt h u c
  have hcnt := h.count
  have hin : (0 : Int) ≤ (iT t u : Int) ∧ (iT t u : Int) < (t.pieces.length : Int) := by omega
  rw [if_neg c] at hM
  simp only [hC, hM, go_sem, List.length_map, if_pos hin, Int.toNat_natCast, row_pcA hi, place_wrap h u c]
  rw [if_neg (by omega)]
theorem s_Place {t : Trk} (h : TQ t) (u : Int) : m_track_Place (trkR t ++ [I u]) = some [I (placeP t u)] := a_Place h s_clamp (s_find h u)
theorem a_refLoose {M : List AC → Option (List AC)} {t : Trk} (h : TQ t) {u : Int} (hM : M (trkR t ++ [I u]) = some [I (if t.pieces = [] then -1 else (iT t u : Int)), I (clT t u)]) : mf_cncref29_Loose M (trkR t ++ [I u]) = some [B (decide (looseP t u))] := by
 have he := mf_cncref29_Loose_eq M (t.pieces.map pceR) t.length t.start t.dirs.x t.dirs.y t.dirs.z u
 refine Eq.trans he ?_
 simp only [trkR, List.cons_append, List.nil_append] at hM
 by_cases c : t.pieces = []
 ·rw [if_pos c] at hM
  simp only [hM, go_sem]
  rw [if_neg (by omega), decide_eq_false fun g => g.1 c]
 ·have hi := iT_lt h u c
  have hcnt := h.count
  have hpos := h.pos _ hi
  have hl := h.len
  have hin : (0 : Int) ≤ (iT t u : Int) ∧ (iT t u : Int) < (t.pieces.length : Int) := by omega
  have hw : IntKind.i64.wrap ((pcA t.pieces (iT t u)).at_ + (pcA t.pieces (iT t u)).units) = eI t.pieces (iT t u) := by unfold eI at hpos ⊢; exact wrap_id (by omega)
  rw [if_neg c] at hM
  simp only [hM, go_sem, List.length_map, if_pos hin, Int.toNat_natCast, row_pcA hi, hw]
  rw [if_pos (by omega)]
  by_cases c1 : (pcA t.pieces (iT t u)).move = 0
  ·by_cases c2 : clT t u > (pcA t.pieces (iT t u)).at_
   ·rw [if_pos c1, if_pos c2]
    by_cases c3 : clT t u < eI t.pieces (iT t u)
    ·rw [decide_eq_true c3, decide_eq_true (show looseP t u from ⟨c, c1, c2, c3⟩)]
    ·rw [decide_eq_false c3, decide_eq_false (show ¬ looseP t u from fun g => c3 g.2.2.2)]
   ·rw [if_pos c1, if_neg c2, decide_eq_false (show ¬ looseP t u from fun g => c2 g.2.2.1)]
  ·rw [if_neg c1, decide_eq_false (show ¬ looseP t u from fun g => c1 g.2.1)]
theorem s_refLoose {t : Trk} (h : TQ t) (u : Int) : m_cncref29_Loose (trkR t ++ [I u]) = some [B (decide (looseP t u))] := a_refLoose h (s_piece h u)
theorem a_Loose {MF MC : List AC → Option (List AC)} {t : Trk} (h : TQ t) {u : Int} (hC : MC [I u, I t.length] = some [I (clT t u)]) (hM : MF (trkR t ++ [I (clT t u)]) = some [I (if t.pieces = [] then -1 else (iT t u : Int))]) : mf_track_Loose MF MC (trkR t ++ [I u]) = some [B (decide (looseP t u))] := by
 have he := mf_track_Loose_eq MF MC (t.pieces.map pceR) t.length t.start t.dirs.x t.dirs.y t.dirs.z u
 refine Eq.trans he ?_
 simp only [trkR, List.cons_append, List.nil_append] at hM
 by_cases c : t.pieces = []
 ·rw [if_pos c] at hM
  simp only [hC, hM, go_sem]
  rw [if_pos (by omega), decide_eq_false fun g => g.1 c]
 ·have hi := iT_lt h u c
  have hcnt := h.count
  have hpos := h.pos _ hi
  have hl := h.len
  have hin : (0 : Int) ≤ (iT t u : Int) ∧ (iT t u : Int) < (t.pieces.length : Int) := by omega
  have hw : IntKind.i64.wrap ((pcA t.pieces (iT t u)).at_ + (pcA t.pieces (iT t u)).units) = eI t.pieces (iT t u) := by unfold eI at hpos ⊢; exact wrap_id (by omega)
  rw [if_neg c] at hM
  simp only [hC, hM, go_sem, List.length_map, if_pos hin, Int.toNat_natCast, row_pcA hi, hw]
  rw [if_neg (by omega)]
  by_cases c1 : (pcA t.pieces (iT t u)).move = 0
  ·by_cases c2 : (pcA t.pieces (iT t u)).at_ < clT t u
   ·rw [if_pos c1, if_pos c2]
    by_cases c3 : clT t u < eI t.pieces (iT t u)
    ·rw [decide_eq_true c3, decide_eq_true (show looseP t u from ⟨c, c1, c2, c3⟩)]
    ·rw [decide_eq_false c3, decide_eq_false (show ¬ looseP t u from fun g => c3 g.2.2.2)]
   ·rw [if_pos c1, if_neg c2, decide_eq_false (show ¬ looseP t u from fun g => c2 g.2.2.1)]
  ·rw [if_neg c1, decide_eq_false (show ¬ looseP t u from fun g => c1 g.2.1)]
theorem s_Loose {t : Trk} (h : TQ t) (u : Int) : m_track_Loose (trkR t ++ [I u]) = some [B (decide (looseP t u))] := a_Loose h s_clamp (s_find h u)
end Go.Bm
/- the axes and directions that the laws' maker makes -/
set_option maxRecDepth 100000
namespace Go.Bm
open Classical

def slow (sp : Int) (l : List Int) : Prop := (∀ v ∈ l, -4096 ≤ v ∧ v ≤ 4096) ∧ ∀ i, i + 1 < l.length → -sp ≤ 4 * (l.getD (i + 1) 0 - l.getD i 0) ∧ 4 * (l.getD (i + 1) 0 - l.getD i 0) ≤ sp
structure AxOK (a : Axs) : Prop where
 step : 4 ≤ a.step ∧ a.step ≤ 64
 back : 0 ≤ a.back ∧ a.back ≤ 6
 origin : -200 ≤ a.origin ∧ a.origin ≤ 200
 spacing : a.pitch ≠ [] → 4 ≤ a.spacing ∧ a.spacing ≤ 123
 pitch : slow a.spacing a.pitch
 count : a.pitch.length ≤ 4
theorem getD_app {l m : List Int} {i : Nat} (h : i < l.length) : (l ++ m).getD i 0 = l.getD i 0 := by simp [List.getD_eq_getElem?_getD, List.getElem?_append_left h]
theorem getD_appR (l m : List Int) (v : Int) : (l ++ v :: m).getD l.length 0 = v := by simp [List.getD_eq_getElem?_getD]
theorem slow_snoc {sp v w : Int} {l : List Int} (h : slow sp (l ++ [v])) (hw : -4096 ≤ w ∧ w ≤ 4096) (hd : -sp ≤ 4 * (w - v) ∧ 4 * (w - v) ≤ sp) : slow sp (l ++ [v] ++ [w]) := by
 refine ⟨?_, ?_⟩
 ·intro x hx
  rcases List.mem_append.1 hx with hx | hx
  ·exact h.1 x hx
  ·rw [List.mem_singleton] at hx; subst hx; exact hw
 ·intro i hi
  simp only [List.length_append, List.length_cons, List.length_nil] at hi
  by_cases c : i + 1 < (l ++ [v]).length
  ·have := h.2 i c
   have c' : i < (l ++ [v]).length := by omega
   rw [getD_app c, getD_app c']
   exact this
  ·simp only [List.length_append, List.length_cons, List.length_nil] at c
   have e : i = l.length := by omega
   subst e
   have g1 : (l ++ [v] ++ [w]).getD (l.length + 1) 0 = w := by
    simp
   have g2 : (l ++ [v] ++ [w]).getD l.length 0 = v := by
    rw [List.append_assoc]; exact getD_appR l ([] ++ [w]) v
   rw [g1, g2]; exact hd
theorem slow_init {sp v : Int} {l : List Int} (h : slow sp (l ++ [v])) : slow sp l := by
 refine ⟨fun x hx => h.1 x (by simp [hx]), fun i hi => ?_⟩
 have := h.2 i (by simp; omega)
 rw [getD_app hi, getD_app (by omega)] at this
 exact this
theorem slow_one {sp v : Int} (hv : -4096 ≤ v ∧ v ≤ 4096) : slow sp ([] ++ [v]) := ⟨fun x hx => by simp at hx; subst hx; exact hv, fun i hi => by simp at hi⟩

theorem step_at {v : Int} (h : 0 ≤ v ∧ v < 6) : ∃ x, intOf (nth .dead (nth [] [[I 8], [I 4], [I 5], [I 16], [I 23], [I 64]] v.toNat) 0) = x ∧ 4 ≤ x ∧ x ≤ 64 := by
 have hc : v = 0 ∨ v = 1 ∨ v = 2 ∨ v = 3 ∨ v = 4 ∨ v = 5 := by omega
 rcases hc with rfl | rfl | rfl | rfl | rfl | rfl <;> exact ⟨_, rfl, by decide⟩
theorem back_at {v : Int} (h : 0 ≤ v ∧ v < 4) : ∃ x, intOf (nth .dead (nth [] [[I 0], [I 1], [I 3], [I 6]] v.toNat) 0) = x ∧ 0 ≤ x ∧ x ≤ 6 := by
 have hc : v = 0 ∨ v = 1 ∨ v = 2 ∨ v = 3 := by omega
 rcases hc with rfl | rfl | rfl | rfl <;> exact ⟨_, rfl, by decide⟩
abbrev axS (l : List (List AC)) (pit : List Int) (n v : Int) (j : Nat) (a : Axs) (k : Nat) : List AC :=
 [.view kInts [], .view kInts (pit.map intR), I n, I v, I j, I 0, I 0, I 0, I 0, I 0, I 0, I 0, I 0, I 0, I a.step, I a.speed, I a.accel, I a.jerk, I a.low, I a.high, I a.back, I a.origin, I a.spacing, .view kInts l, I k]
theorem l_Axis {MN : List AC → Option (List AC)} {l : List (List AC)} (hN : NextOK l MN) {a : Axs} (hsp : 4 ≤ a.spacing ∧ a.spacing ≤ 123) : ∀ (r j : Nat) (pit : List Int) (v : Int) (k : Nat), j + r ≤ 4 → pit.length = j → slow a.spacing (pit ++ [v]) →
  ∃ (pit' : List Int) (k' : Nat), loopC (st_cncmill_Axis_11 MN) (axS l pit (j + r : Nat) v j a k) = some (1, [.view kInts [], .view kInts (pit'.map intR), I 0, I 0, I 0, I 0, I 0, I 0, I 0, I 0, I 0, I a.step, I a.speed, I a.accel, I a.jerk, I a.low, I a.high, I a.back, I a.origin, I a.spacing, .view kInts l, I k']) ∧ pit'.length = j + r ∧ slow a.spacing pit'
 | 0, j, pit, v, k, _, hl, h => by
  refine ⟨pit, k, loop_end (o := (1, _)) ?_ (by simp), by omega, slow_init h⟩
  rw [st_cncmill_Axis_11_eq, bif_neg (by omega)]
 | r + 1, j, pit, v, k, hj, hl, h => by
  have hv := h.1 v (by simp)
  have e4 : IntKind.i64.wrap (a.spacing.tdiv 4) = a.spacing / 4 := by rw [Int.tdiv_eq_ediv_of_nonneg (by omega), wrap_id (by omega)]
  have e5 : IntKind.i64.wrap (IntKind.i64.wrap (2 * (a.spacing / 4)) + 1) = 2 * (a.spacing / 4) + 1 := by rw [wrap_id (x := 2 * (a.spacing / 4)) (by omega), wrap_id (by omega)]
  obtain ⟨w, k1, hw, w0, w1, -⟩ := hN k (n := 2 * (a.spacing / 4) + 1) (by omega)
  have e6 : IntKind.i64.wrap (IntKind.i64.wrap (v + w) - a.spacing / 4) = v + w - a.spacing / 4 := by rw [wrap_id (x := v + w) (by omega), wrap_id (by omega)]
  have hle : (pit.map intR ++ [[I v]]).length * 8 ≤ 140737488355328 := by rw [List.length_append, List.length_map]; simp only [List.length_cons, List.length_nil]; omega
  have hst : st_cncmill_Axis_11 MN (axS l pit (j + (r + 1) : Nat) v j a k) = some (0, axS l (pit ++ [v]) (j + 1 + r : Nat) (min (max (v + w - a.spacing / 4) (-4096)) 4096) (j + 1) a k1) := by
   rw [st_cncmill_Axis_11_eq]
   simp only [go_sem, if_pos hle, e4, e5, hw, e6, mn_eq, mx_eq]
   rw [if_pos (by omega), wrap_id (x := (j : Int) + 1) (by omega), show j + (r + 1) = j + 1 + r by omega]
   simp only [axS, List.map_append, List.map_cons, List.map_nil, intR, Int.natCast_add, Int.cast_ofNat_Int]
  rw [loop_more hst]
  obtain ⟨p', k', h1, h2, h3⟩ := l_Axis hN hsp r (j + 1) (pit ++ [v]) (min (max (v + w - a.spacing / 4) (-4096)) 4096) k1 (by omega) (by simp [hl]) (slow_snoc h (by omega) (by omega))
  exact ⟨p', k', h1, by omega, h3⟩
theorem a_Axis {MN : List AC → Option (List AC)} {N : List AC → Option (Nat × List AC)} {l : List (List AC)} (hN : NextOK l MN)
  (hL : ∀ {a : Axs} {n : Nat} {v : Int} {k : Nat}, (4 ≤ a.spacing ∧ a.spacing ≤ 123) → n ≤ 4 → slow a.spacing ([] ++ [v]) → ∃ (pit' : List Int) (k' : Nat), N (axS l [] n v 0 a k) = some (1, [.view kInts [], .view kInts (pit'.map intR), I 0, I 0, I 0, I 0, I 0, I 0, I 0, I 0, I 0, I a.step, I a.speed, I a.accel, I a.jerk, I a.low, I a.high, I a.back, I a.origin, I a.spacing, .view kInts l, I k']) ∧ pit'.length = n ∧ slow a.spacing pit') (k : Nat) :
  ∃ (a : Axs) (k' : Nat), mf_cncmill_Axis MN N [.view kInts l, I k] = some (axsR a ++ [.view kInts l, I k']) ∧ AxOK a := by
 obtain ⟨v1, k1, h1, a1, b1, -⟩ := hN k (n := 6) (by omega)
 obtain ⟨v2, k2, h2, a2, b2, -⟩ := hN k1 (n := 4) (by omega)
 obtain ⟨v3, k3, h3, a3, b3, -⟩ := hN k2 (n := 5) (by omega)
 obtain ⟨v4, k4, h4, a4, b4, -⟩ := hN k3 (n := 5) (by omega)
 obtain ⟨v5, k5, h5, a5, b5, -⟩ := hN k4 (n := 5) (by omega)
 obtain ⟨v6, k6, h6, a6, b6, -⟩ := hN k5 (n := 5) (by omega)
 obtain ⟨v7, k7, h7, a7, b7, -⟩ := hN k6 (n := 400) (by omega)
 obtain ⟨v8, k8, h8, a8, b8, -⟩ := hN k7 (n := 120) (by omega)
 obtain ⟨v9, k9, h9, a9, b9, -⟩ := hN k8 (n := 9) (by omega)
 obtain ⟨x1, e1, s1⟩ := step_at ⟨a1, b1⟩
 obtain ⟨x2, e2, s2⟩ := back_at ⟨a2, b2⟩
 have i1 : (0 : Int) ≤ v1 ∧ v1 < (([[I 8], [I 4], [I 5], [I 16], [I 23], [I 64]] : List (List AC)).length : Int) := ⟨a1, by simp; omega⟩
 have i2 : (0 : Int) ≤ v2 ∧ v2 < (([[I 0], [I 1], [I 3], [I 6]] : List (List AC)).length : Int) := ⟨a2, by simp; omega⟩
 have i3 : (0 : Int) ≤ v3 ∧ v3 < (([[I 40], [I 1], [I 3], [I 9], [I 1000]] : List (List AC)).length : Int) := ⟨a3, by simp; omega⟩
 have i4 : (0 : Int) ≤ v4 ∧ v4 < (([[I 20], [I 2], [I 3], [I 5], [I 1000]] : List (List AC)).length : Int) := ⟨a4, by simp; omega⟩
 have i5 : (0 : Int) ≤ v5 ∧ v5 < (([[I 30], [I 4], [I 5], [I 8], [I 1000]] : List (List AC)).length : Int) := ⟨a5, by simp; omega⟩
 generalize hx3 : intOf (nth .dead (nth [] [[I 40], [I 1], [I 3], [I 9], [I 1000]] v3.toNat) 0) = x3
 generalize hx4 : intOf (nth .dead (nth [] [[I 20], [I 2], [I 3], [I 5], [I 1000]] v4.toNat) 0) = x4
 generalize hx5 : intOf (nth .dead (nth [] [[I 30], [I 4], [I 5], [I 8], [I 1000]] v5.toNat) 0) = x5
 have main : ∀ R, R = (if v6 = 0 then some [I x1, I x3, I x4, I x5, I (-16777216), I 16777216, I x2, I 0, I 0, .view kInts [], .view kInts l, I k6] else
   (N (axS l [] v6.toNat (v9 - 4) 0 ⟨x1, x3, x4, x5, -16777216, 16777216, x2, v7 - 200, 4 + v8, []⟩ k9)).bind fun o => if o.1 = 1 then some [I (intOf (nth .dead o.2 11)), I (intOf (nth .dead o.2 12)), I (intOf (nth .dead o.2 13)), I (intOf (nth .dead o.2 14)), I (intOf (nth .dead o.2 15)), I (intOf (nth .dead o.2 16)), I (intOf (nth .dead o.2 17)), I (intOf (nth .dead o.2 18)), I (intOf (nth .dead o.2 19)), .view kInts (rowsOf (nth .dead o.2 1)), .view kInts (rowsOf (nth .dead o.2 20)), I (intOf (nth .dead o.2 21))] else none) →
   ∃ (a : Axs) (k' : Nat), R = some (axsR a ++ [.view kInts l, I k']) ∧ AxOK a := by
  intro R hR
  by_cases c : v6 = 0
  ·rw [if_pos c] at hR
   refine ⟨⟨x1, x3, x4, x5, -16777216, 16777216, x2, 0, 0, []⟩, k6, hR, ?_⟩
   exact ⟨s1, s2, by simp, fun h => absurd rfl h, ⟨by simp, by simp⟩, by simp⟩
  ·rw [if_neg c] at hR
   obtain ⟨pit, k', g1, g2, g3⟩ := hL (a := ⟨x1, x3, x4, x5, -16777216, 16777216, x2, v7 - 200, 4 + v8, []⟩) (n := v6.toNat) (v := v9 - 4) (k := k9) (by simp only; omega) (by omega) (slow_one (by omega))
   rw [g1] at hR
   refine ⟨⟨x1, x3, x4, x5, -16777216, 16777216, x2, v7 - 200, 4 + v8, pit⟩, k', ?_, ?_⟩
   ·rw [hR]; simp only [go_sem]; rfl
   ·exact ⟨s1, s2, by simp only; omega, fun _ => by simp only; omega, g3, by simp only; omega⟩
 refine main _ ?_
 rw [mf_cncmill_Axis_eq]
 simp only [go_sem, h1, h2, h3, h4, h5, h6, if_pos i1, if_pos i2, if_pos i3, if_pos i4, if_pos i5, e1, e2, hx3, hx4, hx5]
 by_cases c : v6 = 0
 ·rw [if_pos c, if_pos c]
 ·rw [if_neg c, if_neg c]
  simp only [h7, h8, h9, go_sem, wrap_id (x := v9 - 4) (by omega), wrap_id (x := v7 - 200) (by omega), wrap_id (x := 4 + v8) (by omega)]
  have e : ((v6.toNat : Nat) : Int) = v6 := by omega
  simp only [axS, e, List.map_nil]
  rfl
theorem s_Axis {l : List (List AC)} (hl : Src l) (k : Nat) : ∃ (a : Axs) (k' : Nat), m_cncmill_Axis [.view kInts l, I k] = some (axsR a ++ [.view kInts l, I k']) ∧ AxOK a := by
 refine a_Axis (N := l_cncmill_Axis_11) (nextOK hl) (fun {a n v k} hs hn hv => ?_) k
 obtain ⟨p, k', h1, h2, h3⟩ := l_Axis (MN := m_cncmill_Source_Next) (nextOK hl) hs n 0 [] v k (by omega) rfl hv
 rw [Nat.zero_add] at h1 h2
 exact ⟨p, k', h1, h2, h3⟩
structure Ax3M (x : Ax3) : Prop where
 a : AxOK x.a
 b : AxOK x.b
 c : AxOK x.c
theorem Ax3M.ok {x : Ax3} (h : Ax3M x) : Ax3OK x := ⟨by have := h.a.back; omega, by have := h.b.back; omega, by have := h.c.back; omega⟩
theorem s_Axes {l : List (List AC)} (hl : Src l) : ∃ x : Ax3, m_cncmill_Axes [.view kInts l] = some (ax3R x) ∧ Ax3M x := by
 obtain ⟨a, k1, h1, g1⟩ := s_Axis hl 0
 obtain ⟨b, k2, h2, g2⟩ := s_Axis hl k1
 obtain ⟨c, k3, h3, g3⟩ := s_Axis hl k2
 refine ⟨⟨a, b, c⟩, ?_, g1, g2, g3⟩
 have hf := s_From l
 unfold m_cncmill_Axes
 generalize m_cncmill_Axis = MA at *
 generalize m_cncmill_From = MF at *
 rw [mf_cncmill_Axes_eq]
 have h1' : MA [.view kInts l, I 0] = some (axsR a ++ [.view kInts l, I k1]) := h1
 simp only [axsR, List.cons_append, List.nil_append] at h1' h2 h3
 simp only [go_sem, hf, h1', h2, h3]
theorem s_Dirs {n : Int} (hn : i64 n) : ∃ d : Pt, m_cncmill_Dirs [I n] = some (ptR d) ∧ (d.x = 1 ∨ d.x = -1) ∧ (d.y = 1 ∨ d.y = -1) ∧ (d.z = 1 ∨ d.z = -1) := by
 have hm := s_cncmill_Mod hn (n := 8) (by omega)
 unfold m_cncmill_Dirs
 generalize m_cncmill_Mod = M at *
 rw [mf_cncmill_Dirs_eq]
 simp only [hm, go_sem]
 have h : n % 8 = 0 ∨ n % 8 = 1 ∨ n % 8 = 2 ∨ n % 8 = 3 ∨ n % 8 = 4 ∨ n % 8 = 5 ∨ n % 8 = 6 ∨ n % 8 = 7 := by omega
 rcases h with h | h | h | h | h | h | h | h <;> rw [h]
 ·exact ⟨⟨1, 1, 1⟩, rfl, by simp⟩
 ·exact ⟨⟨-1, 1, 1⟩, rfl, by simp⟩
 ·exact ⟨⟨1, -1, 1⟩, rfl, by simp⟩
 ·exact ⟨⟨-1, -1, 1⟩, rfl, by simp⟩
 ·exact ⟨⟨1, 1, -1⟩, rfl, by simp⟩
 ·exact ⟨⟨-1, 1, -1⟩, rfl, by simp⟩
 ·exact ⟨⟨1, -1, -1⟩, rfl, by simp⟩
 ·exact ⟨⟨-1, -1, -1⟩, rfl, by simp⟩
end Go.Bm
