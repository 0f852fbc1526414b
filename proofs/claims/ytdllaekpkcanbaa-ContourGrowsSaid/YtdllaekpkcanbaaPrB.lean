/- layer 1's reference: numbers as lists of digits to the base 65536 -/
import Derived.Test.YtdllaekpkcanbaaPrA
set_option linter.unusedVariables false
set_option linter.unusedSimpArgs false
set_option maxRecDepth 100000
namespace Go.Bm

abbrev uR (n : Nat) : List AC := [U n]
abbrev kUs : List Kd := [kU]
def val : List Nat → Nat
  | [] => 0
  | d :: l => d + 65536 * val l
def Dig (l : List Nat) : Prop := ∀ d ∈ l, d < 65536
/-- no zero at the end -/
def Cut (l : List Nat) : Prop := ∀ h : l ≠ [], l.getLast h ≠ 0

theorem and_low (v : Nat) (h : v < w64) : IntKind.u64.wrap (((BitVec.ofInt IntKind.u64.bits (v : Int) &&& BitVec.ofInt IntKind.u64.bits 65535).toNat : Nat) : Int) = ((v % 65536 : Nat) : Int) := by
  rw [w64_eq] at h
  have e : (BitVec.ofInt IntKind.u64.bits (v : Int) &&& BitVec.ofInt IntKind.u64.bits 65535).toNat = v % 65536 := by
    rw [BitVec.toNat_and]
    have e1 : (BitVec.ofInt IntKind.u64.bits (v : Int)).toNat = v := by
      simp only [IntKind.bits, BitVec.toNat_ofInt]
      omega
    have e2 : (BitVec.ofInt IntKind.u64.bits 65535).toNat = 2 ^ 16 - 1 := by
      simp only [IntKind.bits, BitVec.toNat_ofInt]
      rfl
    rw [e1, e2, Nat.and_two_pow_sub_one_eq_mod]
  rw [e, uwrap_id (by omega)]
theorem shr16 (v : Nat) : (v : Int).fdiv (2 ^ min (Int.toNat 16) IntKind.u64.bits) = ((v / 65536 : Nat) : Int) := by
  have e : (2 ^ min (Int.toNat 16) IntKind.u64.bits : Int) = 65536 := rfl
  rw [e, Int.fdiv_eq_ediv_of_nonneg _ (by omega)]
  omega

/-- the digits of a number -/
def digs (n : Nat) : List Nat := if h : n = 0 then [] else n % 65536 :: digs (n / 65536)
termination_by n
decreasing_by omega
theorem digs_zero : digs 0 = [] := by unfold digs; simp
theorem digs_pos {n : Nat} (h : n ≠ 0) : digs n = n % 65536 :: digs (n / 65536) := by rw [digs, dif_neg h]
theorem digs_val (n : Nat) : val (digs n) = n := by
  induction n using Nat.strongRecOn with
  | _ n ih =>
    by_cases h : n = 0
    · subst h; rw [digs_zero]; rfl
    · rw [digs_pos h, val, ih _ (by omega)]; omega
theorem digs_dig (n : Nat) : Dig (digs n) := by
  induction n using Nat.strongRecOn with
  | _ n ih =>
    by_cases h : n = 0
    · subst h; rw [digs_zero]; intro d hd; simp at hd
    · rw [digs_pos h]
      intro d hd
      simp only [List.mem_cons] at hd
      rcases hd with rfl | hd
      · omega
      · exact ih _ (by omega) d hd
theorem digs_cut (n : Nat) : Cut (digs n) := by
  induction n using Nat.strongRecOn with
  | _ n ih =>
    by_cases h : n = 0
    · subst h; rw [digs_zero]; intro h; simp at h
    · rw [digs_pos h]
      intro hne
      by_cases h2 : n / 65536 = 0
      · simp only [h2, digs_zero, List.getLast_singleton]; omega
      · have h3 : digs (n / 65536) ≠ [] := by rw [digs_pos h2]; simp
        rw [List.getLast_cons h3]
        exact ih _ (by omega) h3
theorem digs_len (k : Nat) : ∀ n, n < 65536 ^ k → (digs n).length ≤ k := by
  induction k with
  | zero => intro n h; simp at h; subst h; rw [digs_zero]; simp
  | succ k ih =>
    intro n h
    by_cases h0 : n = 0
    · subst h0; rw [digs_zero]; simp
    · rw [digs_pos h0]
      have := ih (n / 65536) (by rw [Nat.pow_succ] at h; exact Nat.div_lt_of_lt_mul (by rw [Nat.mul_comm]; exact h))
      simp; omega

theorem map_uR_append (l : List Nat) (d : Nat) : l.map uR ++ [[AC.int IntKind.u64 (d : Int)]] = (l ++ [d]).map uR := by simp

theorem l_limbs (n : Nat) : ∀ (acc : List Nat), n < w64 → acc.length + (digs n).length ≤ 1000 → l_cncref01_limbs_2 [.view kUs (acc.map uR), U n] = some (1, [.view kUs ((acc ++ digs n).map uR)]) := by
  induction n using Nat.strongRecOn with
  | _ n ih =>
    intro acc hn hl
    unfold l_cncref01_limbs_2
    by_cases h : n = 0
    · subst h
      rw [digs_zero, List.append_nil]
      refine loop_end ?_ (by simp)
      rw [st_cncref01_limbs_2_eq]
      simp
    · rw [digs_pos h] at hl ⊢
      have hstep : st_cncref01_limbs_2 [.view kUs (acc.map uR), U n] = some (0, [.view kUs ((acc ++ [n % 65536]).map uR), U ((n / 65536 : Nat) : Int)]) := by
        rw [st_cncref01_limbs_2_eq, and_low n hn, shr16]
        simp only [go_sem]
        rw [if_pos (by omega), map_uR_append, if_pos (by simp at hl ⊢; omega)]
      rw [loop_more hstep]
      have := ih (n / 65536) (by omega) (acc ++ [n % 65536]) (by omega) (by simp at hl ⊢; omega)
      unfold l_cncref01_limbs_2 at this
      rw [this, List.append_assoc]
      rfl
theorem w64_pow : w64 = 65536 ^ 4 := by rw [w64_eq]
theorem s_cncref01_limbs {n : Nat} (h : n < w64) : m_cncref01_limbs [U n] = some [.view kUs ((digs n).map uR)] := by
  have hl := digs_len 4 n (by rw [← w64_pow]; exact h)
  have := l_limbs n [] h (by simp; omega)
  unfold m_cncref01_limbs
  rw [mf_cncref01_limbs_eq]
  simp only [List.map_nil, List.nil_append] at this
  rw [this]
  rfl

theorem val_append : ∀ (a b : List Nat), val (a ++ b) = val a + 65536 ^ a.length * val b
  | [], b => by simp [val]
  | d :: a, b => by
    simp only [List.cons_append, val, List.length_cons, Nat.pow_succ, val_append a b]
    rw [Nat.mul_add, Nat.mul_comm (65536 ^ a.length) 65536, Nat.mul_assoc]
    omega
theorem val_lt : ∀ {l : List Nat}, Dig l → val l < 65536 ^ l.length
  | [], _ => by simp [val]
  | d :: l, h => by
    have h1 := h d (by simp)
    have h2 := val_lt (l := l) fun x hx => h x (by simp [hx])
    simp only [val, List.length_cons, Nat.pow_succ]
    omega
theorem val_ge : ∀ {l : List Nat}, Cut l → (h : l ≠ []) → 65536 ^ (l.length - 1) ≤ val l
  | [], _, h => absurd rfl h
  | [d], hc, _ => by have := hc (by simp); simp [val] at this ⊢; omega
  | d :: e :: l, hc, _ => by
    have := val_ge (l := e :: l) (fun h => by have := hc (by simp); rw [List.getLast_cons h] at this; exact this) (by simp)
    simp only [val, List.length_cons] at this ⊢
    simp only [Nat.add_sub_cancel] at this ⊢
    rw [Nat.pow_succ]
    omega
theorem Dig.sub {l m : List Nat} (h : Dig l) (hs : ∀ d ∈ m, d ∈ l) : Dig m := fun d hd => h d (hs d hd)

theorem l_cut : ∀ (n : Nat) (l : List Nat), l.length = n → n ≤ 1000 → Dig l → ∃ c : List Nat, l_cncref01_cut_1 [.view kUs (l.map uR)] = some (1, [.view kUs (c.map uR)]) ∧ val c = val l ∧ Dig c ∧ Cut c ∧ c.length ≤ l.length
  | 0, l, hl, _, hd => by
    have : l = [] := List.eq_nil_of_length_eq_zero hl
    subst this
    refine ⟨[], ?_, rfl, hd, fun h => absurd rfl h, Nat.le_refl _⟩
    unfold l_cncref01_cut_1
    refine loop_end ?_ (by simp)
    rw [st_cncref01_cut_1_eq]
    simp
  | n + 1, l, hl, hn, hd => by
    have hw : IntKind.i64.wrap ((l.map uR).length - 1 : Int) = (n : Int) := by rw [wrap_id (by simp; omega)]; simp; omega
    have hlast : nth [] (l.map uR) n = uR (l[n]'(by omega)) := nth_map uR [] l n (by omega)
    have hsplit : l = l.take n ++ [l[n]'(by omega)] := by
      have := List.take_append_drop n l
      rw [getElem_take_drop l n (by omega), List.drop_of_length_le (by omega)] at this
      exact this.symm
    have hstep : st_cncref01_cut_1 [.view kUs (l.map uR)] = if l[n]'(by omega) = 0 then some (0, [.view kUs ((l.take n).map uR)]) else some (1, [.view kUs (l.map uR)]) := by
      rw [st_cncref01_cut_1_eq, hw]
      simp only [Int.toNat_natCast, hlast]
      simp only [go_sem, List.map_take]
      rw [if_pos (by simp; omega), if_pos (by simp; omega)]
      by_cases h0 : l[n]'(by omega) = 0
      · rw [if_pos (by omega), if_pos (by simp; omega), if_pos h0]
      · rw [if_neg (by omega), if_neg h0]
    by_cases h0 : l[n]'(by omega) = 0
    · rw [if_pos h0] at hstep
      obtain ⟨c, h1, h2, h3, h4, h5⟩ := l_cut n (l.take n) (by simp; omega) (by omega) (hd.sub fun d h => List.mem_of_mem_take h)
      refine ⟨c, ?_, ?_, h3, h4, by simp at h5; omega⟩
      · unfold l_cncref01_cut_1 at h1 ⊢
        rw [loop_more hstep]; exact h1
      · rw [h2]
        conv => rhs; rw [hsplit, val_append, h0]
        simp [val]
    · rw [if_neg h0] at hstep
      refine ⟨l, ?_, rfl, hd, fun hne => ?_, Nat.le_refl _⟩
      · unfold l_cncref01_cut_1
        exact loop_end hstep (by simp)
      · have : l.getLast hne = l[n]'(by omega) := by rw [List.getLast_eq_getElem]; congr 1; omega
        rw [this]; exact h0
theorem s_cncref01_cut {l : List Nat} (hl : l.length ≤ 1000) (hd : Dig l) : ∃ c : List Nat, m_cncref01_cut [.view kUs (l.map uR)] = some [.view kUs (c.map uR)] ∧ val c = val l ∧ Dig c ∧ Cut c ∧ c.length ≤ l.length := by
  obtain ⟨c, h1, h2⟩ := l_cut _ l rfl hl hd
  refine ⟨c, ?_, h2⟩
  unfold m_cncref01_cut
  rw [mf_cncref01_cut_eq, h1]
  rfl

theorem val_take_succ (l : List Nat) (k : Nat) (h : k < l.length) : val (l.take (k + 1)) = val (l.take k) + 65536 ^ k * l[k] := by
  rw [List.take_succ_eq_append_getElem h, val_append]
  simp [val, Nat.min_eq_left (Nat.le_of_lt h)]
theorem val_take_lt {l : List Nat} (hd : Dig l) (k : Nat) (h : k ≤ l.length) : val (l.take k) < 65536 ^ k := by
  have := val_lt (hd.sub (m := l.take k) fun d h => List.mem_of_mem_take h)
  simpa [Nat.min_eq_left h] using this
theorem lead_lt {p q a b P : Nat} (hp : p < P) (hab : a < b) : p + P * a < q + P * b := by
  have h1 : P * (a + 1) ≤ P * b := Nat.mul_le_mul_left P hab
  rw [Nat.mul_add] at h1
  omega
theorem l_cmp {a b : List Nat} (hab : a.length = b.length) (ha : Dig a) (hb : Dig b) (hl : a.length ≤ 1000) : ∀ k, k ≤ a.length →
    l_cncref01_cmp_6 [.view kUs (a.map uR), .view kUs (b.map uR), I ((k : Int) - 1)] = if val (a.take k) = val (b.take k) then some (2, []) else some (1, [I (cmpN (val (a.take k)) (val (b.take k)))])
  | 0, _ => by
    unfold l_cncref01_cmp_6
    rw [if_pos (by simp)]
    refine loop_end ?_ (by simp)
    rw [st_cncref01_cmp_6_eq]
    simp only [go_sem]
    rw [if_neg (by omega)]
  | k + 1, hk => by
    have e1 : nth [] (a.map uR) k = uR (a[k]'(by omega)) := nth_map uR [] a k (by omega)
    have e2 : nth [] (b.map uR) k = uR (b[k]'(by omega)) := nth_map uR [] b k (by omega)
    have hstep : st_cncref01_cmp_6 [.view kUs (a.map uR), .view kUs (b.map uR), I (((k + 1 : Nat) : Int) - 1)] =
        if a[k]'(by omega) < b[k]'(by omega) then some (1, [I (-1)]) else if a[k]'(by omega) > b[k]'(by omega) then some (1, [I 1]) else some (0, [.view kUs (a.map uR), .view kUs (b.map uR), I ((k : Int) - 1)]) := by
      rw [show (((k + 1 : Nat) : Int) - 1) = (k : Int) by omega, st_cncref01_cmp_6_eq]
      simp only [Int.toNat_natCast, e1, e2]
      simp only [go_sem]
      rw [if_pos (by omega), if_pos (by simp; omega), if_pos (by simp; omega), wrap_id (by omega)]
      by_cases h1 : a[k]'(by omega) < b[k]'(by omega)
      · rw [if_pos (by omega), if_pos h1]
      · rw [if_neg (by omega), if_neg h1, if_pos (by simp; omega), if_pos (by simp; omega)]
        by_cases h2 : a[k]'(by omega) > b[k]'(by omega)
        · rw [if_pos (by omega), if_pos h2]
        · rw [if_neg (by omega), if_neg h2]
    have ih := l_cmp hab ha hb hl k (by omega)
    unfold l_cncref01_cmp_6 at ih ⊢
    rw [val_take_succ a k (by omega), val_take_succ b k (by omega)]
    have p1 := val_take_lt ha k (by omega)
    have p2 := val_take_lt hb k (by omega)
    by_cases h1 : a[k]'(by omega) < b[k]'(by omega)
    · rw [if_pos h1] at hstep
      have := lead_lt (q := val (b.take k)) p1 h1
      rw [loop_end hstep (by simp), if_neg (by omega)]
      unfold cmpN
      rw [if_pos this]
    · rw [if_neg h1] at hstep
      by_cases h2 : a[k]'(by omega) > b[k]'(by omega)
      · rw [if_pos h2] at hstep
        have := lead_lt (q := val (a.take k)) p2 h2
        rw [loop_end hstep (by simp), if_neg (by omega)]
        unfold cmpN
        rw [if_neg (by omega), if_neg (by omega)]
      · rw [if_neg h2] at hstep
        have h3 : a[k]'(by omega) = b[k]'(by omega) := by omega
        rw [loop_more hstep, ih, h3]
        by_cases h4 : val (a.take k) = val (b.take k)
        · rw [if_pos h4, if_pos (by omega)]
        · rw [if_neg h4, if_neg (by omega)]
          unfold cmpN
          by_cases h5 : val (a.take k) < val (b.take k)
          · rw [if_pos h5, if_pos (by omega)]
          · rw [if_neg h5, if_neg h4, if_neg (by omega), if_neg (by omega)]
theorem s_cncref01_cmp {a b : List Nat} (ha : Dig a) (hb : Dig b) (ca : Cut a) (cb : Cut b) (la : a.length ≤ 1000) :
    m_cncref01_cmp [.view kUs (a.map uR), .view kUs (b.map uR)] = some [I (cmpN (val a) (val b))] := by
  unfold m_cncref01_cmp
  rw [mf_cncref01_cmp_eq]
  by_cases hab : a.length = b.length
  · have := l_cmp hab ha hb la a.length (Nat.le_refl _)
    rw [List.take_length, hab, List.take_length] at this
    have hw : IntKind.i64.wrap (((a.map uR).length : Int) - 1) = (b.length : Int) - 1 := by rw [wrap_id (by simp; omega)]; simp; omega
    rw [hw, this]
    simp only [go_sem]
    rw [if_neg (by simp; omega)]
    by_cases h : val a = val b
    · rw [if_pos h]
      simp [cmpN, h]
    · rw [if_neg h]
      simp only [go_sem, if_true]
  · simp only [go_sem]
    rw [if_pos (by simp; omega)]
    have key : ∀ {a b : List Nat}, Dig a → Cut b → a.length < b.length → val a < val b := by
      intro a b ha cb h
      have h1 := val_lt ha
      have h2 := val_ge cb (by intro e; subst e; simp at h)
      have h3 : 65536 ^ a.length ≤ 65536 ^ (b.length - 1) := Nat.pow_le_pow_right (by omega) (by omega)
      omega
    unfold cmpN
    by_cases h : a.length < b.length
    · have := key ha cb h
      rw [if_pos (by simp; omega), if_pos this]
    · have := key hb ca (by omega)
      rw [if_neg (by simp; omega), if_neg (by omega), if_neg (by omega)]
end Go.Bm
