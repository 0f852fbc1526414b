/- A program that is held from its beginning makes no pulse: the law ReportHeld answers true at every input where the three listed tables are laid, and leaves its arguments as they were; the card ties the tables to the text. -/
import Derived.Test.YtnnpdlgenmnekaaGreatDoorPrOk
import Derived.Test.YtnnpdlgenmnekaaGreatDoorCards
import Derived.Test.YtnnpdlgenmnekaaGreatDoorTie
import Derived.ProofKit
import Derived.Lay
import Derived.Lib.LaidTab
import Derived.SevenTiedAt
set_option linter.unusedVariables false
set_option linter.unusedSimpArgs false
namespace Go.Proofs.YtnnpdlgenmnekaaGreatDoor
open Go Go.Bm Go.Proofs Go.ChangeShapes Go.WideShapes Go.ChangeAt Go.RowKit

theorem own : ownKnob Tryz.prog.godebug = none := by kernel_rfl
theorem laidOut : laidOutB Tryz.prog = true := by kernel_rfl
theorem bool4 : Tryz.prog.underlying 4 = some .bool := by kernel_rfl
theorem gt_of {W : World} (h : laidMet Tryz.prog Rows.reportHeldRow.laid W) : Gt (fun b => b < W.heap.size) W := by
 obtain ⟨ps, ⟨_, _, _, _, _, _, _, _, _, _, ⟨_, _, _, _, _, _, _, _, _, _, ⟨g, t, cs, fuel, p, q, hg, ht, hv, hd, _, _⟩, _⟩, _⟩, _⟩ := h
 obtain rfl := Option.some.inj ((show Tryz.prog.globalNamed "internal/strconv.uint64pow10" = some 2 by kernel_rfl).symm.trans hg)
 obtain rfl := Option.some.inj ((show (Tryz.prog.globals[2]?).map (·.type) = some 314 by kernel_rfl).symm.trans ht)
 have e := Lib.cells_of_tab (zs := (List.range 20).map fun i => ((10 : Int) ^ i)) (k := .u64) (n := 20) (e := 195) (by kernel_rfl) (by kernel_rfl) (by kernel_rfl) (by kernel_rfl) hd
 intro g1 cs1 e1
 have e2 : (some (2, (List.range 20).map fun i => Value.int .u64 (10 ^ i)) : Option (Nat × List Value)) = some (g1, cs1) := e1
 simp only [Option.some.injEq, Prod.mk.injEq] at e2
 obtain ⟨rfl, rfl⟩ := e2
 unfold World.var? at hv
 rw [hg] at hv
 simp only [Option.bind_some] at hv
 split at hv
 ·rename_i c t z hh
  simp only [Option.some.injEq] at hv
  subst hv
  refine ⟨(Array.getElem?_eq_some_iff.1 hh).1, t, z, ?_⟩
  rw [hh, ← Array.toArray_toList (xs := c), e]
  simp only [List.map_map]
  rfl
 ·simp at hv

set_option maxRecDepth 100000 in
theorem law_lifted (os : Os) (started : os.Started) (H : Type) (enc : TypeId × Value → H) :
  ReturnsInHanded {} Tryz.checked os 6 .any (fun w args => (Rows.reportHeldSpec.pre enc Tryz.prog Tryz.f6 [] false w args ∧ laidMetH Tryz.prog Rows.reportHeldRow.laid w) ∧ sizedMet enc Tryz.prog Tryz.f6 (OpenSpec.ofChange Rows.reportHeldSpec) false w args)
   (Rows.reportHeldSpec.post enc Tryz.prog Tryz.f6 false true false false) := by
 refine returnsInHanded_of_change_and (C := Tryz.checked) (X := fun w _ => laidMetH Tryz.prog Rows.reportHeldRow.laid w) (fun _ _ _ hh h => h.of_heap hh) own started (by kernel_rfl) Tryz.func6
  (ChangeSpec.witness_shaped (enc := enc) (C := Tryz.checked) (os := os) (X := fun w _ => laidMetH Tryz.prog Rows.reportHeldRow.laid w) false (World.laidAll Tryz.prog os Rows.reportHeldRow.laid) #[.slice none 0 0, .slice none 0 0, .slice none 0 0, .int .i64 0, .int .i64 0] 8 (World.laidAll_os _ _ _)
   (World.shaped_of_ZipB (by kernel_rfl) (by kernel_rfl)) (by kernel_rfl) (by kernel_rfl) (by kernel_rfl)
   (by rw [MakeChecks.laidMetH_plain _ _ _ (by kernel_rfl)]; exact laidMet_laidAll _ (by kernel_rfl) (by kernel_rfl))) ?_
 intro W base args ds gs before hval hW _ _ hL _
 have hG := gt_of (show laidMet Tryz.prog Rows.reportHeldRow.laid W by rw [← MakeChecks.laidMetH_plain _ _ _ (by kernel_rfl)]; exact hL)
 refine Ydi (tb := 4) (shs := [(false, [Kd.sl Aa]), (false, [Kd.sl Aa]), (false, [Kd.sl Aa]), (false, Aa), (false, Aa)]) rfl laidOut (by kernel_rfl) bool4 (by kernel_rfl) (by kernel_rfl) (Yfz _ _ fun _ _ _ _ _ => rfl) ?_ hval hW hG
 intro ars has hok
 obtain ⟨a0, ars, rfl, g0, k0, has⟩ := Q8 has
 obtain ⟨a1, ars, rfl, g1, k1, has⟩ := Q8 has
 obtain ⟨a2, ars, rfl, g2, k2, has⟩ := Q8 has
 obtain ⟨a3, ars, rfl, g3, k3, has⟩ := Q8 has
 obtain ⟨a4, ars, rfl, g4, k4, has⟩ := Q8 has
 obtain rfl := Zzt has
 have o0 := (hok a0 (by simp)).1
 have o1 := (hok a1 (by simp)).1
 have o2 := (hok a2 (by simp)).1
 have o3 := (hok a3 (by simp)).1
 have o4 := (hok a4 (by simp)).1
 rw [k0] at o0
 rw [k1] at o1
 rw [k2] at o2
 rw [k3] at o3
 rw [k4] at o4
 simp only [List.map_cons, List.map_nil, Ar.tv_of g0 k0, Ar.tv_of g1 k1, Ar.tv_of g2 k2, Ar.tv_of g3 k3, Ar.tv_of g4 k4]
 generalize a0.raw = r0 at o0 ⊢
 generalize a1.raw = r1 at o1 ⊢
 generalize a2.raw = r2 at o2 ⊢
 generalize a3.raw = r3 at o3 ⊢
 generalize a4.raw = r4 at o4 ⊢
 have h0 := Qqa o0
 have h1 := Qqa o1
 have h2 := Qqa o2
 have h3 := Yv o3
 have h4 := Yv o4
 exact @Ybn _ _ _ (Z3i rfl (Yjc h0 h1 h2 h3 h4) rfl)

end Go.Proofs.YtnnpdlgenmnekaaGreatDoor
