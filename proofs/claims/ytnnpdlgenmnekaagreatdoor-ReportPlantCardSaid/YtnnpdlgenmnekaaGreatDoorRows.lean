/-
  NARROWER THAN 'FOR EVERY INPUT', by the rows' own cells (each row's printed sentence says how): ReportFinishes: laid · ReportLate: laid · ReportSame: laid · ReportHeld: laid · ReportLists: laid · ReportPlant: laid.
  DERIVED. THE GIVEN ROWS OF THIS SEAT. 6 by the template 'for every input the law returns true; each argument reads behind the call as it read before'; 0 by the template 'total and deterministic' (their statements: YtnnpdlgenmnekaaGreatDoorTotals.lean).
  GIVEN WITH THE SEED: the statements are not yours to turn. If you find one false, say at which input.
  Laid BY PROGRAM, IN A SANDBOX (cutbox-rows.mjs): the forced cells as the released guide's own fill.sh prints them over the translation 377ee70e7874a1b7… (all of the seat's roots in one cut). By AI agents, Wed Nov 11 2026. No macro, syntax, notation, axiom, sorry.
-/
import Derived.Test.YtnnpdlgenmnekaaGreatDoorChecked
import GoSem.Claim
import GoSem.ClaimJoined
import GoSem.ClaimMapViews
import Derived.JoinedTies
import Derived.KernelRfl
namespace Go.Proofs.YtnnpdlgenmnekaaGreatDoor
/- THE CELL 'sum', in the pinned program and in every row, IS THE sha256 OF THE DUMP (.gsa) THAT YtnnpdlgenmnekaaGreatDoorProg.lean LOADS. Nothing in Lean hashes anything: it is a label: what it is worth is what the hold of that sum in a sandbox is worth. -/
noncomputable def Tryz.pinned : Pinned := { name := "ytnnpdlgenmnekaagreatdoor", sum := "377ee70e7874a1b7bd086fcc8a9ea2a3f143b95f3f6b6a8ee05ff2fb29a3fc85", checked := Tryz.checked }
namespace Rows
def none {H : Type} : Left H := { results := [], args := [] }

/- WHAT THE LISTED PACKAGE-LEVEL VARIABLES READ AS WHEN THE CALL BEGINS. Each datum BY PROGRAM (the guide's laid-datum.mjs) off the statement by which the dump's own 'gosem.cut.vars' lays the variable. In a bare row this is a premise. The card (YtnnpdlgenmnekaaGreatDoorCards.lean) ties it to the program's text. -/
def laid_math_bits_deBruijn32tab {H : Type} : DataW H := .agg [.lit (.int .u8 0), .lit (.int .u8 1), .lit (.int .u8 28), .lit (.int .u8 2), .lit (.int .u8 29), .lit (.int .u8 14), .lit (.int .u8 24), .lit (.int .u8 3), .lit (.int .u8 30), .lit (.int .u8 22), .lit (.int .u8 20), .lit (.int .u8 15), .lit (.int .u8 25), .lit (.int .u8 17), .lit (.int .u8 4), .lit (.int .u8 8), .lit (.int .u8 31), .lit (.int .u8 27), .lit (.int .u8 13), .lit (.int .u8 23), .lit (.int .u8 21), .lit (.int .u8 19), .lit (.int .u8 16), .lit (.int .u8 7), .lit (.int .u8 26), .lit (.int .u8 12), .lit (.int .u8 18), .lit (.int .u8 6), .lit (.int .u8 11), .lit (.int .u8 5), .lit (.int .u8 10), .lit (.int .u8 9)]
def laid_math_bits_deBruijn64tab {H : Type} : DataW H := .agg [.lit (.int .u8 0), .lit (.int .u8 1), .lit (.int .u8 56), .lit (.int .u8 2), .lit (.int .u8 57), .lit (.int .u8 49), .lit (.int .u8 28), .lit (.int .u8 3), .lit (.int .u8 61), .lit (.int .u8 58), .lit (.int .u8 42), .lit (.int .u8 50), .lit (.int .u8 38), .lit (.int .u8 29), .lit (.int .u8 17), .lit (.int .u8 4), .lit (.int .u8 62), .lit (.int .u8 47), .lit (.int .u8 59), .lit (.int .u8 36), .lit (.int .u8 45), .lit (.int .u8 43), .lit (.int .u8 51), .lit (.int .u8 22), .lit (.int .u8 53), .lit (.int .u8 39), .lit (.int .u8 33), .lit (.int .u8 30), .lit (.int .u8 24), .lit (.int .u8 18), .lit (.int .u8 12), .lit (.int .u8 5), .lit (.int .u8 63), .lit (.int .u8 55), .lit (.int .u8 48), .lit (.int .u8 27), .lit (.int .u8 60), .lit (.int .u8 41), .lit (.int .u8 37), .lit (.int .u8 16), .lit (.int .u8 46), .lit (.int .u8 35), .lit (.int .u8 44), .lit (.int .u8 21), .lit (.int .u8 52), .lit (.int .u8 32), .lit (.int .u8 23), .lit (.int .u8 11), .lit (.int .u8 54), .lit (.int .u8 26), .lit (.int .u8 40), .lit (.int .u8 15), .lit (.int .u8 34), .lit (.int .u8 20), .lit (.int .u8 31), .lit (.int .u8 10), .lit (.int .u8 25), .lit (.int .u8 14), .lit (.int .u8 19), .lit (.int .u8 9), .lit (.int .u8 13), .lit (.int .u8 8), .lit (.int .u8 7), .lit (.int .u8 6)]
def laid_internal_strconv_uint64pow10 {H : Type} : DataW H := .agg [.lit (.int .u64 1), .lit (.int .u64 10), .lit (.int .u64 100), .lit (.int .u64 1000), .lit (.int .u64 10000), .lit (.int .u64 100000), .lit (.int .u64 1000000), .lit (.int .u64 10000000), .lit (.int .u64 100000000), .lit (.int .u64 1000000000), .lit (.int .u64 10000000000), .lit (.int .u64 100000000000), .lit (.int .u64 1000000000000), .lit (.int .u64 10000000000000), .lit (.int .u64 100000000000000), .lit (.int .u64 1000000000000000), .lit (.int .u64 10000000000000000), .lit (.int .u64 100000000000000000), .lit (.int .u64 1000000000000000000), .lit (.int .u64 10000000000000000000)]

/-- 'cnclaw44.ReportFinishes': WHATEVER THE INPUT: true; the input reads as it did. -/
def reportFinishesSpec : ChangeSpec := { name := "reportFinishes", fn := fun _ => fun
  | [d1, d2, d3, d4] => { results := [.lit (.bool true)], args := [d1, d2, d3, d4] }
  | _ => none }
def reportFinishesRow : OpenClaim := { program := "ytnnpdlgenmnekaagreatdoor", sum := "377ee70e7874a1b7bd086fcc8a9ea2a3f143b95f3f6b6a8ee05ff2fb29a3fc85", func := "cnc/cnclaw44.ReportFinishes", spec := "reportFinishes", inPlace := ["math/bits.Sub64", "internal/abi.NoEscape"], unfollowed := true, recurses := true, named := ["math/bits.divideError", "math/bits.overflowError", "internal/strconv.uint64pow10", "math/bits.deBruijn32tab", "math/bits.deBruijn64tab"], apart := false, laid := [("math/bits.deBruijn32tab", laid_math_bits_deBruijn32tab), ("math/bits.deBruijn64tab", laid_math_bits_deBruijn64tab), ("internal/strconv.uint64pow10", laid_internal_strconv_uint64pow10)] }
def ReportFinishesSaid : Prop := reportFinishesRow.holds Tryz.pinned (OpenSpec.ofChange reportFinishesSpec)

/-- ITS FALSE NEIGHBOUR: 'it returns false'. Refute it at one input. -/
def reportFinishesWrong : ChangeSpec := { name := "reportFinishes", fn := fun _ => fun
  | [d1, d2, d3, d4] => { results := [.lit (.bool false)], args := [d1, d2, d3, d4] }
  | _ => none }
def ReportFinishesWrongFalsely : Prop := reportFinishesRow.holds Tryz.pinned (OpenSpec.ofChange reportFinishesWrong)

/-- 'cnclaw44.ReportLate': WHATEVER THE INPUT: true; the input reads as it did. -/
def reportLateSpec : ChangeSpec := { name := "reportLate", fn := fun _ => fun
  | [d1, d2, d3, d4, d5, d6, d7, d8] => { results := [.lit (.bool true)], args := [d1, d2, d3, d4, d5, d6, d7, d8] }
  | _ => none }
def reportLateRow : OpenClaim := { program := "ytnnpdlgenmnekaagreatdoor", sum := "377ee70e7874a1b7bd086fcc8a9ea2a3f143b95f3f6b6a8ee05ff2fb29a3fc85", func := "cnc/cnclaw44.ReportLate", spec := "reportLate", inPlace := ["math/bits.Sub64", "internal/abi.NoEscape"], unfollowed := true, recurses := true, named := ["math/bits.divideError", "math/bits.overflowError", "internal/strconv.uint64pow10", "math/bits.deBruijn32tab", "math/bits.deBruijn64tab"], apart := false, laid := [("math/bits.deBruijn32tab", laid_math_bits_deBruijn32tab), ("math/bits.deBruijn64tab", laid_math_bits_deBruijn64tab), ("internal/strconv.uint64pow10", laid_internal_strconv_uint64pow10)] }
def ReportLateSaid : Prop := reportLateRow.holds Tryz.pinned (OpenSpec.ofChange reportLateSpec)

/-- ITS FALSE NEIGHBOUR: 'it returns false'. Refute it at one input. -/
def reportLateWrong : ChangeSpec := { name := "reportLate", fn := fun _ => fun
  | [d1, d2, d3, d4, d5, d6, d7, d8] => { results := [.lit (.bool false)], args := [d1, d2, d3, d4, d5, d6, d7, d8] }
  | _ => none }
def ReportLateWrongFalsely : Prop := reportLateRow.holds Tryz.pinned (OpenSpec.ofChange reportLateWrong)

/-- 'cnclaw44.ReportSame': WHATEVER THE INPUT: true; the input reads as it did. -/
def reportSameSpec : ChangeSpec := { name := "reportSame", fn := fun _ => fun
  | [d1, d2, d3, d4, d5, d6] => { results := [.lit (.bool true)], args := [d1, d2, d3, d4, d5, d6] }
  | _ => none }
def reportSameRow : OpenClaim := { program := "ytnnpdlgenmnekaagreatdoor", sum := "377ee70e7874a1b7bd086fcc8a9ea2a3f143b95f3f6b6a8ee05ff2fb29a3fc85", func := "cnc/cnclaw44.ReportSame", spec := "reportSame", inPlace := ["math/bits.Sub64", "internal/abi.NoEscape"], unfollowed := true, recurses := true, named := ["math/bits.divideError", "math/bits.overflowError", "internal/strconv.uint64pow10", "math/bits.deBruijn32tab", "math/bits.deBruijn64tab"], apart := false, laid := [("math/bits.deBruijn32tab", laid_math_bits_deBruijn32tab), ("math/bits.deBruijn64tab", laid_math_bits_deBruijn64tab), ("internal/strconv.uint64pow10", laid_internal_strconv_uint64pow10)] }
def ReportSameSaid : Prop := reportSameRow.holds Tryz.pinned (OpenSpec.ofChange reportSameSpec)

/-- ITS FALSE NEIGHBOUR: 'it returns false'. Refute it at one input. -/
def reportSameWrong : ChangeSpec := { name := "reportSame", fn := fun _ => fun
  | [d1, d2, d3, d4, d5, d6] => { results := [.lit (.bool false)], args := [d1, d2, d3, d4, d5, d6] }
  | _ => none }
def ReportSameWrongFalsely : Prop := reportSameRow.holds Tryz.pinned (OpenSpec.ofChange reportSameWrong)

/-- 'cnclaw44.ReportHeld': WHATEVER THE INPUT: true; the input reads as it did. -/
def reportHeldSpec : ChangeSpec := { name := "reportHeld", fn := fun _ => fun
  | [d1, d2, d3, d4, d5] => { results := [.lit (.bool true)], args := [d1, d2, d3, d4, d5] }
  | _ => none }
def reportHeldRow : OpenClaim := { program := "ytnnpdlgenmnekaagreatdoor", sum := "377ee70e7874a1b7bd086fcc8a9ea2a3f143b95f3f6b6a8ee05ff2fb29a3fc85", func := "cnc/cnclaw44.ReportHeld", spec := "reportHeld", inPlace := ["math/bits.Sub64", "internal/abi.NoEscape"], unfollowed := true, recurses := true, named := ["math/bits.divideError", "math/bits.overflowError", "internal/strconv.uint64pow10", "math/bits.deBruijn32tab", "math/bits.deBruijn64tab"], apart := false, laid := [("math/bits.deBruijn32tab", laid_math_bits_deBruijn32tab), ("math/bits.deBruijn64tab", laid_math_bits_deBruijn64tab), ("internal/strconv.uint64pow10", laid_internal_strconv_uint64pow10)] }
def ReportHeldSaid : Prop := reportHeldRow.holds Tryz.pinned (OpenSpec.ofChange reportHeldSpec)

/-- ITS FALSE NEIGHBOUR: 'it returns false'. Refute it at one input. -/
def reportHeldWrong : ChangeSpec := { name := "reportHeld", fn := fun _ => fun
  | [d1, d2, d3, d4, d5] => { results := [.lit (.bool false)], args := [d1, d2, d3, d4, d5] }
  | _ => none }
def ReportHeldWrongFalsely : Prop := reportHeldRow.holds Tryz.pinned (OpenSpec.ofChange reportHeldWrong)

/-- 'cnclaw44.ReportLists': WHATEVER THE INPUT: true; the input reads as it did. -/
def reportListsSpec : ChangeSpec := { name := "reportLists", fn := fun _ => fun
  | [d] => { results := [.lit (.bool true)], args := [d] }
  | _ => none }
def reportListsRow : OpenClaim := { program := "ytnnpdlgenmnekaagreatdoor", sum := "377ee70e7874a1b7bd086fcc8a9ea2a3f143b95f3f6b6a8ee05ff2fb29a3fc85", func := "cnc/cnclaw44.ReportLists", spec := "reportLists", inPlace := ["math/bits.Sub64", "internal/abi.NoEscape"], unfollowed := true, recurses := true, named := ["math/bits.divideError", "math/bits.overflowError", "internal/strconv.uint64pow10", "math/bits.deBruijn32tab", "math/bits.deBruijn64tab"], apart := false, laid := [("math/bits.deBruijn32tab", laid_math_bits_deBruijn32tab), ("math/bits.deBruijn64tab", laid_math_bits_deBruijn64tab), ("internal/strconv.uint64pow10", laid_internal_strconv_uint64pow10)] }
def ReportListsSaid : Prop := reportListsRow.holds Tryz.pinned (OpenSpec.ofChange reportListsSpec)

/-- ITS FALSE NEIGHBOUR: 'it returns false'. Refute it at one input. -/
def reportListsWrong : ChangeSpec := { name := "reportLists", fn := fun _ => fun
  | [d] => { results := [.lit (.bool false)], args := [d] }
  | _ => none }
def ReportListsWrongFalsely : Prop := reportListsRow.holds Tryz.pinned (OpenSpec.ofChange reportListsWrong)

/-- 'cnclaw44.ReportPlant': WHATEVER THE INPUT: true; the input reads as it did. -/
def reportPlantSpec : ChangeSpec := { name := "reportPlant", fn := fun _ => fun
  | [d1, d2, d3, d4, d5] => { results := [.lit (.bool true)], args := [d1, d2, d3, d4, d5] }
  | _ => none }
def reportPlantRow : OpenClaim := { program := "ytnnpdlgenmnekaagreatdoor", sum := "377ee70e7874a1b7bd086fcc8a9ea2a3f143b95f3f6b6a8ee05ff2fb29a3fc85", func := "cnc/cnclaw44.ReportPlant", spec := "reportPlant", inPlace := ["math/bits.Sub64", "internal/abi.NoEscape"], unfollowed := true, recurses := true, named := ["math/bits.divideError", "math/bits.overflowError", "internal/strconv.uint64pow10", "math/bits.deBruijn32tab", "math/bits.deBruijn64tab"], apart := false, laid := [("math/bits.deBruijn32tab", laid_math_bits_deBruijn32tab), ("math/bits.deBruijn64tab", laid_math_bits_deBruijn64tab), ("internal/strconv.uint64pow10", laid_internal_strconv_uint64pow10)] }
def ReportPlantSaid : Prop := reportPlantRow.holds Tryz.pinned (OpenSpec.ofChange reportPlantSpec)

/-- ITS FALSE NEIGHBOUR: 'it returns false'. Refute it at one input. -/
def reportPlantWrong : ChangeSpec := { name := "reportPlant", fn := fun _ => fun
  | [d1, d2, d3, d4, d5] => { results := [.lit (.bool false)], args := [d1, d2, d3, d4, d5] }
  | _ => none }
def ReportPlantWrongFalsely : Prop := reportPlantRow.holds Tryz.pinned (OpenSpec.ofChange reportPlantWrong)

/- THE SECOND FORM. 'bulk': how many values and letters a reading holds, each counted each time it is reached (what is shared counts as often as it is met; a slice's spare places count too). A statement '..UptoSaid' is the law's where the arguments, and the package variables that the reading takes, are together of bulk at most 1048576: NARROWER than '..Said'. Prove '..Said' where nothing that the law and all that it calls make is longer than what came in: it says more and counts as full. Else prove '..UptoSaid'. A law counts once. -/
mutual
def uptoBulk {H : Type} : DataW H → Nat
  | .lit (.string bytes) => bytes.length + 1
  | .lit _ => 1
  | .nil => 1
  | .ptr d => uptoBulk d + 1
  | .slice elems spare => uptoBulkAll elems + uptoBulkAll spare + 1
  | .agg parts => uptoBulkAll parts + 1
  | .iface _ d => uptoBulk d + 1
  | .map entries => uptoBulkEntries entries + 1
  | .held _ => 1
def uptoBulkAll {H : Type} : List (DataW H) → Nat
  | [] => 0
  | d :: r => uptoBulk d + uptoBulkAll r
def uptoBulkEntries {H : Type} : List (Lit × DataW H) → Nat
  | [] => 0
  | x :: r => uptoBulkEntry x + uptoBulkEntries r
def uptoBulkEntry {H : Type} : Lit × DataW H → Nat
  | (.string bytes, d) => bytes.length + uptoBulk d + 1
  | (_, d) => uptoBulk d + 1
 end
def uptoSmall : (H : Type) → List (DataW H) → Bool := fun _ ds => decide (uptoBulkAll ds ≤ 1048576)
def OpenSpec.upto (s : _root_.Go.ChangeSpec) : _root_.Go.OpenSpec := { _root_.Go.OpenSpec.ofChange s with cond := some uptoSmall }

/-- 'cnclaw44.ReportFinishes', WHERE WHAT IT READS IS OF BULK AT MOST 1048576: true; the input reads as it did. -/
def reportFinishesUptoRow : OpenClaim := { program := "ytnnpdlgenmnekaagreatdoor", sum := "377ee70e7874a1b7bd086fcc8a9ea2a3f143b95f3f6b6a8ee05ff2fb29a3fc85", func := "cnc/cnclaw44.ReportFinishes", spec := "reportFinishes", inPlace := ["math/bits.Sub64", "internal/abi.NoEscape"], unfollowed := true, recurses := true, named := ["math/bits.divideError", "math/bits.overflowError", "internal/strconv.uint64pow10", "math/bits.deBruijn32tab", "math/bits.deBruijn64tab"], apart := false, laid := [("math/bits.deBruijn32tab", laid_math_bits_deBruijn32tab), ("math/bits.deBruijn64tab", laid_math_bits_deBruijn64tab), ("internal/strconv.uint64pow10", laid_internal_strconv_uint64pow10)], narrowed := true }
def ReportFinishesUptoSaid : Prop := reportFinishesUptoRow.holds Tryz.pinned (OpenSpec.upto reportFinishesSpec)

/-- 'cnclaw44.ReportLate', WHERE WHAT IT READS IS OF BULK AT MOST 1048576: true; the input reads as it did. -/
def reportLateUptoRow : OpenClaim := { program := "ytnnpdlgenmnekaagreatdoor", sum := "377ee70e7874a1b7bd086fcc8a9ea2a3f143b95f3f6b6a8ee05ff2fb29a3fc85", func := "cnc/cnclaw44.ReportLate", spec := "reportLate", inPlace := ["math/bits.Sub64", "internal/abi.NoEscape"], unfollowed := true, recurses := true, named := ["math/bits.divideError", "math/bits.overflowError", "internal/strconv.uint64pow10", "math/bits.deBruijn32tab", "math/bits.deBruijn64tab"], apart := false, laid := [("math/bits.deBruijn32tab", laid_math_bits_deBruijn32tab), ("math/bits.deBruijn64tab", laid_math_bits_deBruijn64tab), ("internal/strconv.uint64pow10", laid_internal_strconv_uint64pow10)], narrowed := true }
def ReportLateUptoSaid : Prop := reportLateUptoRow.holds Tryz.pinned (OpenSpec.upto reportLateSpec)

/-- 'cnclaw44.ReportSame', WHERE WHAT IT READS IS OF BULK AT MOST 1048576: true; the input reads as it did. -/
def reportSameUptoRow : OpenClaim := { program := "ytnnpdlgenmnekaagreatdoor", sum := "377ee70e7874a1b7bd086fcc8a9ea2a3f143b95f3f6b6a8ee05ff2fb29a3fc85", func := "cnc/cnclaw44.ReportSame", spec := "reportSame", inPlace := ["math/bits.Sub64", "internal/abi.NoEscape"], unfollowed := true, recurses := true, named := ["math/bits.divideError", "math/bits.overflowError", "internal/strconv.uint64pow10", "math/bits.deBruijn32tab", "math/bits.deBruijn64tab"], apart := false, laid := [("math/bits.deBruijn32tab", laid_math_bits_deBruijn32tab), ("math/bits.deBruijn64tab", laid_math_bits_deBruijn64tab), ("internal/strconv.uint64pow10", laid_internal_strconv_uint64pow10)], narrowed := true }
def ReportSameUptoSaid : Prop := reportSameUptoRow.holds Tryz.pinned (OpenSpec.upto reportSameSpec)

/-- 'cnclaw44.ReportHeld', WHERE WHAT IT READS IS OF BULK AT MOST 1048576: true; the input reads as it did. -/
def reportHeldUptoRow : OpenClaim := { program := "ytnnpdlgenmnekaagreatdoor", sum := "377ee70e7874a1b7bd086fcc8a9ea2a3f143b95f3f6b6a8ee05ff2fb29a3fc85", func := "cnc/cnclaw44.ReportHeld", spec := "reportHeld", inPlace := ["math/bits.Sub64", "internal/abi.NoEscape"], unfollowed := true, recurses := true, named := ["math/bits.divideError", "math/bits.overflowError", "internal/strconv.uint64pow10", "math/bits.deBruijn32tab", "math/bits.deBruijn64tab"], apart := false, laid := [("math/bits.deBruijn32tab", laid_math_bits_deBruijn32tab), ("math/bits.deBruijn64tab", laid_math_bits_deBruijn64tab), ("internal/strconv.uint64pow10", laid_internal_strconv_uint64pow10)], narrowed := true }
def ReportHeldUptoSaid : Prop := reportHeldUptoRow.holds Tryz.pinned (OpenSpec.upto reportHeldSpec)

/-- 'cnclaw44.ReportLists', WHERE WHAT IT READS IS OF BULK AT MOST 1048576: true; the input reads as it did. -/
def reportListsUptoRow : OpenClaim := { program := "ytnnpdlgenmnekaagreatdoor", sum := "377ee70e7874a1b7bd086fcc8a9ea2a3f143b95f3f6b6a8ee05ff2fb29a3fc85", func := "cnc/cnclaw44.ReportLists", spec := "reportLists", inPlace := ["math/bits.Sub64", "internal/abi.NoEscape"], unfollowed := true, recurses := true, named := ["math/bits.divideError", "math/bits.overflowError", "internal/strconv.uint64pow10", "math/bits.deBruijn32tab", "math/bits.deBruijn64tab"], apart := false, laid := [("math/bits.deBruijn32tab", laid_math_bits_deBruijn32tab), ("math/bits.deBruijn64tab", laid_math_bits_deBruijn64tab), ("internal/strconv.uint64pow10", laid_internal_strconv_uint64pow10)], narrowed := true }
def ReportListsUptoSaid : Prop := reportListsUptoRow.holds Tryz.pinned (OpenSpec.upto reportListsSpec)

/-- 'cnclaw44.ReportPlant', WHERE WHAT IT READS IS OF BULK AT MOST 1048576: true; the input reads as it did. -/
def reportPlantUptoRow : OpenClaim := { program := "ytnnpdlgenmnekaagreatdoor", sum := "377ee70e7874a1b7bd086fcc8a9ea2a3f143b95f3f6b6a8ee05ff2fb29a3fc85", func := "cnc/cnclaw44.ReportPlant", spec := "reportPlant", inPlace := ["math/bits.Sub64", "internal/abi.NoEscape"], unfollowed := true, recurses := true, named := ["math/bits.divideError", "math/bits.overflowError", "internal/strconv.uint64pow10", "math/bits.deBruijn32tab", "math/bits.deBruijn64tab"], apart := false, laid := [("math/bits.deBruijn32tab", laid_math_bits_deBruijn32tab), ("math/bits.deBruijn64tab", laid_math_bits_deBruijn64tab), ("internal/strconv.uint64pow10", laid_internal_strconv_uint64pow10)], narrowed := true }
def ReportPlantUptoSaid : Prop := reportPlantUptoRow.holds Tryz.pinned (OpenSpec.upto reportPlantSpec)

end Rows
end Go.Proofs.YtnnpdlgenmnekaaGreatDoor
