/- The simulated machine, moved by the pulses of a run, is in every cycle at most a step of each axis away from a point that is AA the contour of the items: the law ReportPlant answers true at every input where the three listed tables are laid, and leaves its arguments as they were; the card ties the tables to the text. -/
import Derived.Test.YtnnpdlgenmnekaaGreatDoorPrOk
import Derived.Test.YtnnpdlgenmnekaaGreatDoorCards
import Derived.Test.YtnnpdlgenmnekaaGreatDoorTie
import Derived.ProofKit
import Derived.Lay
import Derived.Lib.LaidTab
import Derived.SevenTiedAt
set_option linter.unusedVariables false
set_option linter.unusedSimpArgs false
namespace Go.Proofs.YtnnpdlgenmnekaaGreatDoor
open Go Go.Bm Go.Proofs Go.ChangeShapes Go.WideShapes Go.ChangeAt Go.RowKit

theorem own : ownKnob Tryz.prog.godebug = none := by kernel_rfl
theorem laidOut : laidOutB Tryz.prog = true := by kernel_rfl
theorem bool4 : Tryz.prog.underlying 4 = some .bool := by kernel_rfl
theorem gt_of {W : World} (h : laidMet Tryz.prog Rows.reportPlantRow.laid W) : Gt (fun b => b < W.heap.size) W := by
 obtain ⟨ps, ⟨_, _, _, _, _, _, _, _, _, _, ⟨_, _, _, _, _, _, _, _, _, _, ⟨g, t, cs, fuel, p, q, hg, ht, hv, hd, _, _⟩, _⟩, _⟩, _⟩ := h
 obtain rfl := Option.some.inj ((show Tryz.prog.globalNamed "internal/strconv.uint64pow10" = some 2 by kernel_rfl).symm.trans hg)
 obtain rfl := Option.some.inj ((show (Tryz.prog.globals[2]?).map (·.type) = some 314 by kernel_rfl).symm.trans ht)
 have e := Lib.cells_of_tab (zs := (List.range 20).map fun i => ((10 : Int) ^ i)) (k := .u64) (n := 20) (e := 195) (by kernel_rfl) (by kernel_rfl) (by kernel_rfl) (by kernel_rfl) hd
 intro g1 cs1 e1
 have e2 : (some (2, (List.range 20).map fun i => Value.int .u64 (10 ^ i)) : Option (Nat × List Value)) = some (g1, cs1) := e1
 simp only [Option.some.injEq, Prod.mk.injEq] at e2
 obtain ⟨rfl, rfl⟩ := e2
 unfold World.var? at hv
 rw [hg] at hv
 simp only [Option.bind_some] at hv
 split at hv
 ·rename_i c t z hh
  simp only [Option.some.injEq] at hv
  subst hv
  refine ⟨(Array.getElem?_eq_some_iff.1 hh).1, t, z, ?_⟩
  rw [hh, ← Array.toArray_toList (xs := c), e]
  simp only [List.map_map]
  rfl
 ·simp at hv

set_option maxRecDepth 100000 in
theorem law_lifted (os : Os) (started : os.Started) (H : Type) (enc : TypeId × Value → H) :
  ReturnsInHanded {} Tryz.checked os 8 .any (fun w args => (Rows.reportPlantSpec.pre enc Tryz.prog Tryz.f8 [] false w args ∧ laidMetH Tryz.prog Rows.reportPlantRow.laid w) ∧ sizedMet enc Tryz.prog Tryz.f8 (OpenSpec.ofChange Rows.reportPlantSpec) false w args)
   (Rows.reportPlantSpec.post enc Tryz.prog Tryz.f8 false true false false) := by
 refine returnsInHanded_of_change_and (C := Tryz.checked) (X := fun w _ => laidMetH Tryz.prog Rows.reportPlantRow.laid w) (fun _ _ _ hh h => h.of_heap hh) own started (by kernel_rfl) Tryz.func8
  (ChangeSpec.witness_shaped (enc := enc) (C := Tryz.checked) (os := os) (X := fun w _ => laidMetH Tryz.prog Rows.reportPlantRow.laid w) false (World.laidAll Tryz.prog os Rows.reportPlantRow.laid) #[.slice none 0 0, .slice none 0 0, .slice none 0 0, .slice none 0 0, .int .i64 0] 8 (World.laidAll_os _ _ _)
   (World.shaped_of_ZipB (by kernel_rfl) (by kernel_rfl)) (by kernel_rfl) (by kernel_rfl) (by kernel_rfl)
   (by rw [MakeChecks.laidMetH_plain _ _ _ (by kernel_rfl)]; exact laidMet_laidAll _ (by kernel_rfl) (by kernel_rfl))) ?_
 intro W base args ds gs before hval hW _ _ hL _
 have hG := gt_of (show laidMet Tryz.prog Rows.reportPlantRow.laid W by rw [← MakeChecks.laidMetH_plain _ _ _ (by kernel_rfl)]; exact hL)
 refine Z9s (tb := 4) (shs := [(false, [Kd.sl Aa]), (false, [Kd.sl Aa]), (false, [Kd.sl Aa]), (false, [Kd.sl Aa]), (false, Aa)]) rfl laidOut (by kernel_rfl) bool4 (by kernel_rfl) (by kernel_rfl) (Ybk _ _ fun _ _ _ _ _ => rfl) ?_ hval hW hG
 intro ars has hok
 obtain ⟨a0, ars, rfl, g0, k0, has⟩ := Sa has
 obtain ⟨a1, ars, rfl, g1, k1, has⟩ := Sa has
 obtain ⟨a2, ars, rfl, g2, k2, has⟩ := Sa has
 obtain ⟨a3, ars, rfl, g3, k3, has⟩ := Sa has
 obtain ⟨a4, ars, rfl, g4, k4, has⟩ := Sa has
 obtain rfl := Zy4 has
 have o0 := (hok a0 (by simp)).1
 have o1 := (hok a1 (by simp)).1
 have o2 := (hok a2 (by simp)).1
 have o3 := (hok a3 (by simp)).1
 have o4 := (hok a4 (by simp)).1
 rw [k0] at o0
 rw [k1] at o1
 rw [k2] at o2
 rw [k3] at o3
 rw [k4] at o4
 simp only [List.map_cons, List.map_nil, Ar.tv_of g0 k0, Ar.tv_of g1 k1, Ar.tv_of g2 k2, Ar.tv_of g3 k3, Ar.tv_of g4 k4]
 generalize a0.raw = r0 at o0 ⊢
 generalize a1.raw = r1 at o1 ⊢
 generalize a2.raw = r2 at o2 ⊢
 generalize a3.raw = r3 at o3 ⊢
 generalize a4.raw = r4 at o4 ⊢
 have h0 := W4 o0
 have h1 := W4 o1
 have h2 := W4 o2
 have h3 := W4 o3
 have h4 := Qq3 o4
 exact @Z70 _ _ _ (Z2a rfl (Zzw h0 h1 h2 h3 h4) rfl)

end Go.Proofs.YtnnpdlgenmnekaaGreatDoor
