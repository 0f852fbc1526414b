/- the library functions Mul64, LeadingZeros64, Sub64 as rows -/
import Derived.Test.YtdllaekpkcanbaaBmExt
import Derived.Test.YtdllaekpkcanbaaSeShelf
set_option linter.unusedVariables false
set_option linter.unusedSimpArgs false
namespace Go.Bm
open Go.Proofs Go.RowKit
def two64 : Int := 18446744073709551616
def inU (x : Int) : Bool := decide (0 <= x) && decide (x < two64)
def Qkz : Sk := { tmps := [TS.v false [CS.int .u64], TS.v false [CS.int .u64]], boxes := [], rows := [] }
def Qjb : Sk := { tmps := [TS.tup [(false, [CS.int .u64]), (false, [CS.int .u64])]], boxes := [], rows := [] }
def mul64 (x y : Int) : Option (List AC) := bif inU x && inU y then some [.int .u64 (x * y / two64), .int .u64 (x * y % two64)] else none
def Qed (vars : List AC) : Option (List AC) := mul64 (Qav (nth .dead vars 0)) (Qav (nth .dead vars 1))
theorem r_bits_Mul64 : Qbv Try.prog (147, spOf Qkz Qjb Qed) := by
 refine int_row (ar := fun vars => [(.u64, Qav (nth .dead vars 0)), (.u64, Qav (nth .dead vars 1))]) (val := fun o => .tuple #[.int .u64 (Qav (nth .dead o 0)), .int .u64 (Qav (nth .dead o 1))]) rfl (fun _ => rfl) (fun vars o ho w => ?_) (val_two _ _)
 unfold Qed mul64 at ho
 generalize Qav (nth .dead vars 0) = x at ho ⊢
 generalize Qav (nth .dead vars 1) = y at ho ⊢
 obtain ⟨hc, ho⟩ := Qci ho
 simp only [inU, Bool.and_eq_true, decide_eq_true_eq] at hc
 obtain ⟨⟨hx0, hx⟩, hy0, hy⟩ := hc
 have e64 : two64 = 18446744073709551616 := rfl
 simp only [Option.some.injEq] at ho
 subst ho
 obtain ⟨X, rfl⟩ := Int.eq_ofNat_of_zero_le hx0
 obtain ⟨Y, rfl⟩ := Int.eq_ofNat_of_zero_le hy0
 refine .inl ⟨callable_of (by kernel_rfl), ?_⟩
 refine (Try.bits_Mul64 X Y (by omega) (by omega) w).mono ?_
 rintro e w' ⟨rfl, rfl⟩
 refine ⟨?_, rfl⟩
 simp only [nth, Qav, two64]
 rfl
def Qe5 : Sk := { tmps := [TS.v false [CS.int .u64]], boxes := [], rows := [] }
def Qes : Sk := { tmps := [TS.v false [CS.int .i64]], boxes := [], rows := [] }
def Qbd (vars : List AC) : Option (List AC) := bif inU (Qav (nth .dead vars 0)) then some [.int .i64 (64 - (Lib.bitLen (Qav (nth .dead vars 0)).toNat : Int))] else none
theorem r_bits_LeadingZeros64 : Qbv Try.prog (164, spOf Qe5 Qes Qbd) := by
 refine int_row (ar := fun vars => [(.u64, Qav (nth .dead vars 0))]) (val := fun o => .int .i64 (Qav (nth .dead o 0))) rfl (fun _ => rfl) (fun vars o ho w => ?_) (val_one _)
 unfold Qbd at ho
 generalize Qav (nth .dead vars 0) = x at ho ⊢
 obtain ⟨hc, ho⟩ := Qci ho
 simp only [inU, Bool.and_eq_true, decide_eq_true_eq] at hc
 have e64 : two64 = 18446744073709551616 := rfl
 simp only [Option.some.injEq] at ho
 subst ho
 refine .inl ⟨callable_of (by kernel_rfl), ?_⟩
 refine (Try.bits_LeadingZeros64 x w hc.1 (by omega)).mono ?_
 rintro e w' ⟨rfl, rfl⟩
 exact ⟨rfl, rfl⟩
def sig_bits_Sub64 : Sk := { tmps := [TS.v false [CS.int .u64], TS.v false [CS.int .u64], TS.v false [CS.int .u64]], boxes := [], rows := [] }
def Qnq : Sk := { tmps := [TS.tup [(false, [CS.int .u64]), (false, [CS.int .u64])]], boxes := [], rows := [] }
def Qe8 (vars : List AC) : Option (List AC) :=
 bif inU (Qav (nth .dead vars 0)) && inU (Qav (nth .dead vars 1)) && (decide (Qav (nth .dead vars 2) = 0) || decide (Qav (nth .dead vars 2) = 1)) then
  some [.int .u64 ((Qav (nth .dead vars 0) - Qav (nth .dead vars 1) - Qav (nth .dead vars 2)) % two64), .int .u64 (bif decide (Qav (nth .dead vars 0) < Qav (nth .dead vars 1) + Qav (nth .dead vars 2)) then 1 else 0)] else none
theorem r_bits_Sub64 : Qbv Try.prog (173, spOf sig_bits_Sub64 Qnq Qe8) := by
 refine int_row (ar := fun vars => [(.u64, Qav (nth .dead vars 0)), (.u64, Qav (nth .dead vars 1)), (.u64, Qav (nth .dead vars 2))]) (val := fun o => .tuple #[.int .u64 (Qav (nth .dead o 0)), .int .u64 (Qav (nth .dead o 1))]) rfl (fun _ => rfl) (fun vars o ho w => ?_) (val_two _ _)
 unfold Qe8 at ho
 generalize Qav (nth .dead vars 0) = x at ho ⊢
 generalize Qav (nth .dead vars 1) = y at ho ⊢
 generalize Qav (nth .dead vars 2) = b at ho ⊢
 obtain ⟨hc, ho⟩ := Qci ho
 simp only [inU, Bool.and_eq_true, Bool.or_eq_true, decide_eq_true_eq] at hc
 have e64 : two64 = 18446744073709551616 := rfl
 obtain ⟨⟨⟨hx0, hx⟩, hy0, hy⟩, hb⟩ := hc
 simp only [Option.some.injEq] at ho
 subst ho
 obtain ⟨X, rfl⟩ := Int.eq_ofNat_of_zero_le hx0
 obtain ⟨Y, rfl⟩ := Int.eq_ofNat_of_zero_le hy0
 obtain ⟨B, rfl⟩ := Int.eq_ofNat_of_zero_le (a := b) (by omega)
 refine .inr ⟨_, w, ?_, rfl, rfl⟩
 have := run_sub64 (P := Try.prog) X Y B (by omega) w
 show (callFunc 173 #[.int .u64 X, .int .u64 Y, .int .u64 B]).run Try.prog w = _
 rw [run_callFunc_extern Try.func173 (by kernel_rfl) (by kernel_rfl) (by kernel_rfl) (e := sub64Entry) (by kernel_rfl), this]
 have e1 : (((X + 18446744073709551616 - Y - B) % 18446744073709551616 : Nat) : Int) = ((X : Int) - Y - B) % two64 := by rw [e64]; omega
 have e2 : ((if X < Y + B then 1 else 0 : Nat) : Int) = (bif decide ((X : Int) < Y + B) then 1 else 0) := by
  by_cases h : X < Y + B
  ·rw [if_pos h, decide_eq_true (by omega)]; rfl
  ·rw [if_neg h, decide_eq_false (by omega)]; rfl
 rw [e1, e2]
 rfl
end Go.Bm
