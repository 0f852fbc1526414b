/- the path of items that the maker makes is valid -/
import Derived.Test.YtdllaekpkcanbaaGreatPrIt
import Derived.Test.YtdllaekpkcanbaaGreatPrIt
set_option linter.unusedVariables false
set_option linter.unusedSimpArgs false
set_option maxRecDepth 100000
namespace Go.Bm
open Classical

structure okW (R : Nat) (s : Spk) : Prop where
 ok : okS s
 u : s.u.natAbs <= R
 w : s.w.natAbs <= R
 r : s.r <= R
theorem midS_okW {R : Nat} {a b : Spk} (ha : okW R a) (hb : okW R b) {dir : Int} (hd : dir = 1 \/ dir = -1) (full : Bool) : okW R (midS a b dir full) := by
 have hbd := midD_bd ha.ok hb.ok hd full
 have hr := hf_bd ha.ok.2.2.1 hb.ok.2.2.1
 have hrR : hf a.r b.r <= R := by have := ha.r; have := hb.r; unfold hf; omega
 refine ⟨midS_ok ha.ok hb.ok hd full, ?_, ?_, ?_⟩
 all_goals
  unfold midS midOf
  split
  ·simp
  ·rename_i h
   obtain ⟨⟨-, n1⟩, -, n2⟩ := near_S hbd.1 hbd.2 hr h
   simp only
   omega
theorem pcsL_okW {R : Nat} {dir : Int} (hd : dir = 1 \/ dir = -1) : ∀ (k : Nat) (full : Bool) {a b : Spk}, okW R a -> okW R b -> ∀ s ∈ pcsL dir k full a b, okW R s
 | 0, _, a, b, _, hb, s, hs => by simp [pcsL] at hs; subst hs; exact hb
 | k + 1, full, a, b, ha, hb, s, hs => by
  unfold pcsL at hs
  have hm := midS_okW ha hb hd full
  split at hs
  ·simp at hs; subst hs; exact hb
  ·rcases List.mem_append.1 hs with hs | hs
   ·exact pcsL_okW hd k false ha hm s hs
   ·exact pcsL_okW hd k false hm hb s hs
theorem endS_okW {it : Itm} {p : Pt} {c : Nat} (hce : bd 1048576 it.ce) (hp : bd 1048576 p) (h1 : (dU it p).natAbs <= c) (h2 : (dW it p).natAbs <= c) : okW (32 * c + 1) (endS it p) := by
 obtain ⟨g1, g2, g3, g4⟩ := endS_sq hce hp
 refine ⟨endS_ok hce hp, ?_, ?_, ?_⟩
 ·show (dU it p * 16).natAbs <= _; omega
 ·show (dW it p * 16).natAbs <= _; omega
 ·show midR _ <= _
  obtain ⟨n, hn⟩ := Int.eq_ofNat_of_zero_le g3
  have hle : n <= (32 * c) * (32 * c) := by
   have k1 := sq_bd (x := dU it p * 16) (A := 16 * c) (by omega)
   have k2 := sq_bd (x := dW it p * 16) (A := 16 * c) (by omega)
   have e : (32 * c) * (32 * c) = 4 * (16 * c * (16 * c)) := by grind
   unfold sq2 at hn
   generalize 16 * c * (16 * c) = m at *
   omega
  rw [hn] at g4 ⊢
  obtain ⟨r, -, r2, r3, -⟩ := Qmk (n := n) (by omega)
  rw [midR_of (isMid_nat r2 r3)]
  have : r <= 32 * c := Nat.mul_self_le_mul_self_iff.1 (Nat.le_trans r2 hle)
  split <;> omega
theorem chords_near {it : Itm} (h : Made it) (h1 : bd 4084 it.fr) (h2 : bd 4084 it.to) : ∀ p ∈ Qez it, bd 100000 p := by
 have hv := made_valid h (Qbi h1 (by omega)) (Qbi h2 (by omega))
 intro p hp
 unfold Qez at hp
 by_cases h3 : it.kind = 3
 ·rw [if_pos h3] at hp
  obtain ⟨hpl, hd, hc, -⟩ := hv.2.2.2 h3
  have ha := h.arc h3
  obtain ⟨-, hce⟩ := arc_bd ha (by omega) h1
  obtain ⟨r, k, t, g, x, e1, e2, e3, e4, e5, e6, e7, e8, e9, e10, e11, e12, e13⟩ := ha.ends
  obtain ⟨⟨r1, r2⟩, r3, r4⟩ := rot_bd (r := r) (k := k) (by omega)
  obtain ⟨⟨r5, r6⟩, r7, r8⟩ := rot_bd (r := r + g) (k := k + t) (by omega)
  have a1 : (dU it it.fr).natAbs <= 20 /\ (dW it it.fr).natAbs <= 20 := by unfold dU dW; rw [e12, (pl_sp hpl).1, (pl_sp hpl).2.1]; omega
  have a2 : (dU it it.to).natAbs <= 20 /\ (dW it it.to).natAbs <= 20 := by unfold dU dW; rw [e12, e13, (pl_sp hpl).1, (pl_sp hpl).1, (pl_sp hpl).2.1, (pl_sp hpl).2.1]; omega
  have k1 := endS_okW hc hv.2.1 a1.1 a1.2
  have k2 := endS_okW hc hv.2.2.1 a2.1 a2.2
  simp only [List.mem_map] at hp
  obtain ⟨s, hs, rfl⟩ := hp
  -- the heights lie between those of the ends
  have hh : ∀ s ∈ Qfj it, s.h.natAbs <= 65344 := by
   have key : ∀ (k : Nat) (full : Bool) (a b : Spk), a.h.natAbs <= 65344 -> b.h.natAbs <= 65344 -> ∀ s ∈ pcsL it.dir k full a b, s.h.natAbs <= 65344 := by
    intro k
    induction k with
    | zero => intro full a b ha hb s hs; simp [pcsL] at hs; subst hs; exact hb
    | succ k ih =>
     intro full a b ha hb s hs
     have hm : (midS a b it.dir full).h.natAbs <= 65344 := by
      unfold midS midOf
      split
      ·simp
      ·show (hf a.h b.h).natAbs <= _
       unfold hf; omega
     unfold pcsL at hs
     split at hs
     ·simp at hs; subst hs; exact hb
     ·rcases List.mem_append.1 hs with hs | hs
      ·exact ih false _ _ ha hm s hs
      ·exact ih false _ _ hm hb s hs
   have f1 := (pl_bd (pl := it.plane) h1).2.2
   have f2 := (pl_bd (pl := it.plane) h2).2.2
   have b1 : (endS it it.fr).h.natAbs <= 65344 := by show (plH it.plane it.fr * 16).natAbs <= _; omega
   have b2 : (endS it it.to).h.natAbs <= 65344 := by show (plH it.plane it.to * 16).natAbs <= _; omega
   intro s hs
   rcases List.mem_cons.1 hs with rfl | hs
   ·exact b1
   ·exact key 16 _ _ _ b1 b2 s hs
  have hs1 : okW (32 * 20 + 1) s := by
   rcases List.mem_cons.1 hs with rfl | hs
   ·exact k1
   ·exact pcsL_okW hd 16 _ k1 k2 s hs
  have hs2 := hh s hs
  obtain ⟨c1, c2, -⟩ := pl_bd (pl := it.plane) (Qkh hce)
  have u1 := hs1.u
  have u2 := hs1.w
  have : (8 : Int).toNat = 8 := rfl
  unfold chPt
  exact sp_bd (by omega) (by omega) (by omega)
 ·rw [if_neg h3] at hp
  simp at hp
  rcases hp with rfl | rfl
  ·exact Qbi (Qkh h1) (by decide)
  ·exact Qbi (Qkh h2) (by decide)
theorem points_24 {items : List Itm} {i : Nat} {frm : Int} (hi : i < items.length) (hm : motI (itA items i)) (hmade : ∀ it ∈ items, (motI it /\ Made it /\ blank it /\ bd 4084 it.fr /\ bd 4084 it.to) \/ Oth it) (hf : frmOK items i frm) (hall : ∀ k < items.length, motI (itA items k) -> drawn (itA items k)) :
  ∀ p ∈ Qda items i frm, bd B24 p := by
 have hmk := hmade _ (itA_mem hi)
 have hd := hall i hi hm
 have hch : ∀ p ∈ Qez (itA items i), bd B24 p := by
  rcases hmk with ⟨-, g1, -, g2, g3⟩ | g
  ·exact fun p hp => Qbi (chords_near g1 g2 g3 p hp) (by decide)
  ·exact absurd hm (oth_mot g)
 intro p hp
 unfold Qda at hp
 by_cases hs : smI (itA items i)
 ·rw [if_pos hs] at hp
  rcases List.mem_append.1 hp with hp | hp
  ·rcases List.mem_append.1 hp with hp | hp
   ·unfold headP at hp
    rcases hf with rfl | ⟨f, rfl, hf1, hf2⟩
    ·rw [if_neg (by omega)] at hp
     exact hch p (List.mem_of_mem_take hp)
    ·rw [if_pos (by omega)] at hp
     exact (Qo8 (by simpa using hf2) hd).1 p (List.mem_of_mem_drop hp)
   ·simp at hp; subst hp; exact Qo9 hd.1.2.1 hd.1.2.2.1
  ·unfold tailP at hp
   by_cases h : 0 <= Qjm items i
   ·rw [if_pos h] at hp
    obtain ⟨k, hk, hk1, hk2⟩ := soft_get hall h
    rw [hk] at hp
    exact (Qo8 hd (by simpa using hk2)).1 p (List.mem_of_mem_take hp)
   ·rw [if_neg h] at hp
    exact hch p (List.mem_of_mem_drop hp)
 ·rw [if_neg hs] at hp
  exact hch p hp

def lastIt : Int -> List Sgm -> Int
 | k, [] => k
 | _, g :: l => lastIt g.item l
theorem segsOK_snoc {g : Sgm} : ∀ {l : List Sgm} {item : Int} {a : Pt}, segsOK item a l -> segOne (lastIt item l) (endOf a l) g -> segsOK item a (l ++ [g])
 | [], _, _, _, h => ⟨h, trivial⟩
 | _ :: _, _, _, h1, h => ⟨h1.1, segsOK_snoc h1.2 h⟩
theorem lastIt_snoc {g : Sgm} : ∀ {l : List Sgm} {item : Int}, lastIt item (l ++ [g]) = g.item
 | [], _ => rfl
 | _ :: l, _ => lastIt_snoc (l := l)
theorem fold_segs {start : Pt} {item feed lead : Int} (hf : 0 <= feed /\ feed <= 16777216) (hl : 0 <= lead /\ lead <= 16777216) : ∀ (pts : List Pt) (s : List Sgm × Int × Pt), (∀ p ∈ pts, bd B24 p) -> segsOK 0 start s.1 -> endOf start s.1 = s.2.2 -> lastIt 0 s.1 <= item ->
  segsOK 0 start (pts.foldl (Qf3 item feed lead) s).1 /\ lastIt 0 (pts.foldl (Qf3 item feed lead) s).1 <= item
 | [], s, _, h, _, h2 => ⟨h, h2⟩
 | q :: pts, s, hp, h, h1, h2 => by
  rw [List.foldl_cons]
  have hq := hp q (by simp)
  unfold Qf3
  by_cases c : q = s.2.2
  ·rw [if_pos c]
   exact fold_segs hf hl pts s (fun p hp' => hp p (by simp [hp'])) h h1 h2
  ·rw [if_neg c]
   refine fold_segs hf hl pts _ (fun p hp' => hp p (by simp [hp'])) ?_ (endOf_snoc _ _ _) (by simp only [lastIt_snoc]; omega)
   exact segsOK_snoc h ⟨hq, by rw [h1]; exact c, by rw [h1], h2, hf, hl⟩
def lastAt : Int -> List Mrk -> Int
 | k, [] => k
 | _, m :: l => lastAt m.at_ l
theorem marksOK_snoc {m : Mrk} {n n' : Int} (hn : n <= n') : ∀ {l : List Mrk} {last : Int}, marksOK last n l -> markOne (lastAt last l) n' m -> marksOK last n' (l ++ [m])
 | [], _, _, h => ⟨h, trivial⟩
 | k :: l, _, ⟨⟨h1, h2, h3, h4⟩, h5⟩, h => ⟨⟨h1, by omega, h3, h4⟩, marksOK_snoc hn h5 h⟩
theorem lastAt_le {n : Int} : ∀ {l : List Mrk} {last : Int}, last <= n -> marksOK last n l -> lastAt last l <= n
 | [], _, h, _ => h
 | m :: l, _, _, ⟨h1, h2⟩ => lastAt_le (l := l) h1.2.1 h2
theorem near_pos_bd {a : Int} (h : 0 <= a /\ a <= 60000000) : 0 <= near (a * 4096) 60000 /\ near (a * 4096) 60000 <= 4096001 := by
 unfold near
 omega
theorem rate_ok {it : Itm} {speed : Int} (hf : it.kind = 1 \/ 1 <= it.feed /\ it.feed <= 60000000) (hs : 0 <= speed /\ speed <= 30000) : 0 <= rate it speed /\ rate it speed <= 16777216 := by
 unfold rate
 by_cases h1 : it.kind = 1
 ·rw [if_pos h1]; omega
 ·rw [if_neg h1]
  have hf2 : 0 <= it.feed /\ it.feed <= 60000000 := by omega
  have key : ∀ f : Int, 0 <= f -> 0 <= mx (near (mn f 60000000 * 4096) 60000) 1 /\ mx (near (mn f 60000000 * 4096) 60000) 1 <= 16777216 := by
   intro f hf
   have h := near_pos_bd (mn_bd hf)
   unfold mx
   split <;> omega
  split
  ·exact key _ (feed_bd hf2 hs).1
  ·exact key _ hf2.1
theorem lead_ok {it : Itm} (hf : syI it -> 0 <= it.feed /\ it.feed <= 60000000) : 0 <= leadI it /\ leadI it <= 16777216 := by
 unfold leadI
 split
 ·rename_i h
  have := hf h
  unfold mn; split <;> omega
 ·omega
structure VInv (i : Nat) (s : BSt) : Prop where
 begun : s.begun = true -> bd B24 s.start /\ segsOK 0 s.start s.segs /\ lastIt 0 s.segs <= i
 marks : marksOK 0 s.len s.marks
theorem kindK_ok (items : List Itm) (i : Nat) : 1 <= kindK items i /\ kindK items i <= 6 := by
 have hns : ∀ l : List Itm, nextSy l = 1 \/ nextSy l = 2 := by
  intro l
  induction l with
  | nil => right; rfl
  | cons it l ih =>
   unfold nextSy
   split
   ·split <;> simp
   ·exact ih
 unfold kindK
 rcases hns (items.drop (i + 1)) with h | h <;> rw [h] <;> split <;> (try split) <;> (try split) <;> omega
theorem otherK_ok (it : Itm) : 1 <= otherK it /\ otherK it <= 6 := by unfold otherK; split <;> (try split) <;> omega
theorem bStep_v {items : List Itm} {i : Nat} {s : BSt} (hi : i < items.length) (hright : ∀ j < items.length, ¬ Qfd (itA items j)) (hpts : motI (itA items i) -> ∀ p ∈ Qda items i s.frm, bd B24 p) (hok : BOK items i s) (hin : BInv s) (h : VInv i s) : VInv (i + 1) (bStep items i s) := by
 have hall : ∀ k < items.length, motI (itA items k) -> drawn (itA items k) := fun k hk hm => (Qo3 (hright k hk) hm).1
 unfold bStep
 by_cases hm : motI (itA items i)
 ·rw [if_pos hm]
  have hrm := Qo3 (hright i hi) hm
  have hd := hrm.1
  have hr := rate_ok hrm.2 hok.speed
  have hl := lead_ok (it := itA items i) fun hs => by rcases hs with h | h <;> have := hrm.2 <;> omega
  have hpt := hpts hm
  obtain ⟨p1, p2⟩ := points_bd hd hok.frm hall
  have ha : bd 67108864 (if s.begun = true then s.at_ else fine (itA items i).fr) := by
   by_cases hb : s.begun = true
   ·rw [if_pos hb]; exact hok.at_ hb
   ·rw [if_neg hb]; exact Qbi (Qkh hd.1.2.1) (by decide)
  obtain ⟨-, a2, -, -⟩ := fold_bd (item := i) (feed := rate (itA items i) s.speed) (lead := leadI (itA items i)) (Qda items i s.frm) (s.segs, s.len, if s.begun = true then s.at_ else fine (itA items i).fr) p1 ha hok.len.1
  refine ⟨fun _ => ?_, ?_⟩
  ·unfold motS
   by_cases hb : s.begun = true
   ·rw [if_pos hb, if_pos hb]
    obtain ⟨g1, g2, g3⟩ := h.begun hb
    obtain ⟨k1, k2⟩ := fold_segs (start := s.start) (item := i) hr hl (Qda items i s.frm) (s.segs, s.len, s.at_) hpt g2 (hin.begun hb).2.2.1 g3
    exact ⟨g1, k1, by simp only; omega⟩
   ·rw [if_neg hb, if_neg hb]
    obtain ⟨g1, g2, g3⟩ := hin.empty (by simpa using hb)
    rw [g1]
    obtain ⟨k1, k2⟩ := fold_segs (start := fine (itA items i).fr) (item := i) hr hl (Qda items i s.frm) ([], s.len, fine (itA items i).fr) hpt trivial rfl (by simp only [lastIt]; omega)
    exact ⟨Qbi (Qkh hd.1.2.1) (by decide), k1, by simp only; omega⟩
  ·have hla := lastAt_le hok.len.1 h.marks
   have hk := kindK_ok items i
   have : s.len <= (motS items i s).2.1 := a2
   exact marksOK_snoc this h.marks ⟨by simp only; omega, by simp only; omega, hk, by simp only; omega⟩
 ·rw [if_neg hm]
  refine ⟨fun hb => ?_, ?_⟩
  ·obtain ⟨g1, g2, g3⟩ := h.begun hb
   exact ⟨g1, g2, by simp only; omega⟩
  ·have hla := lastAt_le hok.len.1 h.marks
   have hk := otherK_ok (itA items i)
   exact marksOK_snoc (Int.le_refl _) h.marks ⟨by simp only; omega, by simp only; omega, hk, by simp only; omega⟩
theorem items_right {p : Pt} {items : List Itm} (h : Items 4084 p items) (hl : items.length <= 15) : ∀ j < items.length, ¬ Qfd (itA items j) := (check_right (items_check (by omega) h (by omega))).2
theorem buildN_v {p : Pt} {items : List Itm} (h : Items 4084 p items) (hl : items.length <= 15) : ∀ i, i <= items.length -> VInv i (Qbq items i)
 | 0, _ => by rw [Qbq]; exact ⟨fun h => (by cases h), trivial⟩
 | i + 1, hi => by
  have hright := items_right h hl
  have hok := buildN_ok hright i (by omega)
  rw [Qbq]
  exact bStep_v (by omega) hright (fun hm => points_24 (by omega) hm h.made hok.frm fun k hk hm => (Qo3 (hright k hk) hm).1) hok (buildN_inv hright i (by omega)) (buildN_v h hl i (by omega))
theorem path_valid {p : Pt} {items : List Itm} (h : Items 4084 p items) (hl : items.length <= 15) : validP (Qfn items) := by
 have hright := items_right h hl
 have hv := buildN_v h hl items.length (Nat.le_refl _)
 have hin := buildN_inv hright items.length (Nat.le_refl _)
 have hs := sum_len hright
 unfold validP
 rw [hs]
 unfold Qfn
 by_cases hb : (Qbq items items.length).begun = true
 ·obtain ⟨g1, g2, -⟩ := hv.begun hb
  exact ⟨g1, g2, hv.marks⟩
 ·obtain ⟨g1, g2, g3⟩ := hin.empty (by simpa using hb)
  refine ⟨?_, ?_, hv.marks⟩
  ·simp only [g3]; unfold bd; simp
  ·simp only [g1]; trivial
end Go.Bm
