/-
  No cell of these rows narrows 'for every input' (looked for: loops, veiled, ifaces, maps, wideKeys, modest, calm, conditions, laid).
  DERIVED. THE GIVEN ROWS OF THIS SEAT. 5 by the template 'for every input the law returns true; each argument reads behind the call as it read before'; 0 by the template 'total and deterministic' (their statements: YticldimccdceaaaTotals.lean).
  GIVEN WITH THE SEED: the statements are not yours to turn. If you find one false, say at which input.
  Laid BY PROGRAM, IN A SANDBOX (cutbox-rows.mjs): the forced cells as the released guide's own fill.sh prints them over the translation e730efd376585c98… (all of the seat's roots in one cut). By AI agents, Wed Nov 11 2026. No macro, syntax, notation, axiom, sorry.
-/
import Derived.Test.YticldimccdceaaaChecked
import GoSem.Claim
import GoSem.ClaimJoined
import GoSem.ClaimMapViews
import Derived.JoinedTies
import Derived.KernelRfl
namespace Go.Proofs.Yticldimccdceaaa
/- THE CELL 'sum', in the pinned program and in every row, IS THE sha256 OF THE DUMP (.gsa) THAT YticldimccdceaaaProg.lean LOADS. Nothing in Lean hashes anything: it is a label: what it is worth is what the hold of that sum in a sandbox is worth. -/
noncomputable def Try.pinned : Pinned := { name := "yticldimccdceaaa", sum := "e730efd376585c98da073b22dd09a111a34ef8da44914b5f8b2f361ea8ced959", checked := Try.checked }
namespace Rows
def none {H : Type} : Left H := { results := [], args := [] }

/-- 'cnclaw35.OverrideTarget': WHATEVER THE INPUT: true; the input reads as it did. -/
def overrideTargetSpec : ChangeSpec := { name := "overrideTarget", fn := fun _ => fun
  | [d1, d2, d3] => { results := [.lit (.bool true)], args := [d1, d2, d3] }
  | _ => none }
def overrideTargetRow : OpenClaim := { program := "yticldimccdceaaa", sum := "e730efd376585c98da073b22dd09a111a34ef8da44914b5f8b2f361ea8ced959", func := "cnc/cnclaw35.OverrideTarget", spec := "overrideTarget", apart := false }
def OverrideTargetSaid : Prop := overrideTargetRow.holds Try.pinned (OpenSpec.ofChange overrideTargetSpec)

/-- ITS FALSE NEIGHBOUR: 'it returns false'. Refute it at one input. -/
def overrideTargetWrong : ChangeSpec := { name := "overrideTarget", fn := fun _ => fun
  | [d1, d2, d3] => { results := [.lit (.bool false)], args := [d1, d2, d3] }
  | _ => none }
def OverrideTargetWrongFalsely : Prop := overrideTargetRow.holds Try.pinned (OpenSpec.ofChange overrideTargetWrong)

/-- 'cnclaw35.OverrideHold': WHATEVER THE INPUT: true; the input reads as it did. -/
def overrideHoldSpec : ChangeSpec := { name := "overrideHold", fn := fun _ => fun
  | [d1, d2, d3] => { results := [.lit (.bool true)], args := [d1, d2, d3] }
  | _ => none }
def overrideHoldRow : OpenClaim := { program := "yticldimccdceaaa", sum := "e730efd376585c98da073b22dd09a111a34ef8da44914b5f8b2f361ea8ced959", func := "cnc/cnclaw35.OverrideHold", spec := "overrideHold", apart := false }
def OverrideHoldSaid : Prop := overrideHoldRow.holds Try.pinned (OpenSpec.ofChange overrideHoldSpec)

/-- ITS FALSE NEIGHBOUR: 'it returns false'. Refute it at one input. -/
def overrideHoldWrong : ChangeSpec := { name := "overrideHold", fn := fun _ => fun
  | [d1, d2, d3] => { results := [.lit (.bool false)], args := [d1, d2, d3] }
  | _ => none }
def OverrideHoldWrongFalsely : Prop := overrideHoldRow.holds Try.pinned (OpenSpec.ofChange overrideHoldWrong)

/-- 'cnclaw35.OverrideOrder': WHATEVER THE INPUT: true; the input reads as it did. -/
def overrideOrderSpec : ChangeSpec := { name := "overrideOrder", fn := fun _ => fun
  | [d1, d2, d3, d4, d5] => { results := [.lit (.bool true)], args := [d1, d2, d3, d4, d5] }
  | _ => none }
def overrideOrderRow : OpenClaim := { program := "yticldimccdceaaa", sum := "e730efd376585c98da073b22dd09a111a34ef8da44914b5f8b2f361ea8ced959", func := "cnc/cnclaw35.OverrideOrder", spec := "overrideOrder", apart := false }
def OverrideOrderSaid : Prop := overrideOrderRow.holds Try.pinned (OpenSpec.ofChange overrideOrderSpec)

/-- ITS FALSE NEIGHBOUR: 'it returns false'. Refute it at one input. -/
def overrideOrderWrong : ChangeSpec := { name := "overrideOrder", fn := fun _ => fun
  | [d1, d2, d3, d4, d5] => { results := [.lit (.bool false)], args := [d1, d2, d3, d4, d5] }
  | _ => none }
def OverrideOrderWrongFalsely : Prop := overrideOrderRow.holds Try.pinned (OpenSpec.ofChange overrideOrderWrong)

/-- 'cnclaw35.OverrideExact': WHATEVER THE INPUT: true; the input reads as it did. -/
def overrideExactSpec : ChangeSpec := { name := "overrideExact", fn := fun _ => fun
  | [d1, d2, d3] => { results := [.lit (.bool true)], args := [d1, d2, d3] }
  | _ => none }
def overrideExactRow : OpenClaim := { program := "yticldimccdceaaa", sum := "e730efd376585c98da073b22dd09a111a34ef8da44914b5f8b2f361ea8ced959", func := "cnc/cnclaw35.OverrideExact", spec := "overrideExact", apart := false }
def OverrideExactSaid : Prop := overrideExactRow.holds Try.pinned (OpenSpec.ofChange overrideExactSpec)

/-- ITS FALSE NEIGHBOUR: 'it returns false'. Refute it at one input. -/
def overrideExactWrong : ChangeSpec := { name := "overrideExact", fn := fun _ => fun
  | [d1, d2, d3] => { results := [.lit (.bool false)], args := [d1, d2, d3] }
  | _ => none }
def OverrideExactWrongFalsely : Prop := overrideExactRow.holds Try.pinned (OpenSpec.ofChange overrideExactWrong)

/-- 'cnclaw35.OverrideApply': WHATEVER THE INPUT: true; the input reads as it did. -/
def overrideApplySpec : ChangeSpec := { name := "overrideApply", fn := fun _ => fun
  | [d1, d2] => { results := [.lit (.bool true)], args := [d1, d2] }
  | _ => none }
def overrideApplyRow : OpenClaim := { program := "yticldimccdceaaa", sum := "e730efd376585c98da073b22dd09a111a34ef8da44914b5f8b2f361ea8ced959", func := "cnc/cnclaw35.OverrideApply", spec := "overrideApply", apart := false }
def OverrideApplySaid : Prop := overrideApplyRow.holds Try.pinned (OpenSpec.ofChange overrideApplySpec)

/-- ITS FALSE NEIGHBOUR: 'it returns false'. Refute it at one input. -/
def overrideApplyWrong : ChangeSpec := { name := "overrideApply", fn := fun _ => fun
  | [d1, d2] => { results := [.lit (.bool false)], args := [d1, d2] }
  | _ => none }
def OverrideApplyWrongFalsely : Prop := overrideApplyRow.holds Try.pinned (OpenSpec.ofChange overrideApplyWrong)

/- THE SECOND FORM. 'bulk': how many values and letters a reading holds, each counted each time it is reached (what is shared counts as often as it is met; a slice's spare places count too). A statement '..UptoSaid' is the law's where the arguments, and the package variables that the reading takes, are together of bulk at most 1048576: NARROWER than '..Said'. Prove '..Said' where nothing that the law and all that it calls make is longer than what came in: it says more and counts as full. Else prove '..UptoSaid'. A law counts once. -/
mutual
def uptoBulk {H : Type} : DataW H → Nat
  | .lit (.string bytes) => bytes.length + 1
  | .lit _ => 1
  | .nil => 1
  | .ptr d => uptoBulk d + 1
  | .slice elems spare => uptoBulkAll elems + uptoBulkAll spare + 1
  | .agg parts => uptoBulkAll parts + 1
  | .iface _ d => uptoBulk d + 1
  | .map entries => uptoBulkEntries entries + 1
  | .held _ => 1
def uptoBulkAll {H : Type} : List (DataW H) → Nat
  | [] => 0
  | d :: r => uptoBulk d + uptoBulkAll r
def uptoBulkEntries {H : Type} : List (Lit × DataW H) → Nat
  | [] => 0
  | x :: r => uptoBulkEntry x + uptoBulkEntries r
def uptoBulkEntry {H : Type} : Lit × DataW H → Nat
  | (.string bytes, d) => bytes.length + uptoBulk d + 1
  | (_, d) => uptoBulk d + 1
 end
def uptoSmall : (H : Type) → List (DataW H) → Bool := fun _ ds => decide (uptoBulkAll ds ≤ 1048576)
def OpenSpec.upto (s : _root_.Go.ChangeSpec) : _root_.Go.OpenSpec := { _root_.Go.OpenSpec.ofChange s with cond := some uptoSmall }

/-- 'cnclaw35.OverrideTarget', WHERE WHAT IT READS IS OF BULK AT MOST 1048576: true; the input reads as it did. -/
def overrideTargetUptoRow : OpenClaim := { program := "yticldimccdceaaa", sum := "e730efd376585c98da073b22dd09a111a34ef8da44914b5f8b2f361ea8ced959", func := "cnc/cnclaw35.OverrideTarget", spec := "overrideTarget", apart := false, narrowed := true }
def OverrideTargetUptoSaid : Prop := overrideTargetUptoRow.holds Try.pinned (OpenSpec.upto overrideTargetSpec)

/-- 'cnclaw35.OverrideHold', WHERE WHAT IT READS IS OF BULK AT MOST 1048576: true; the input reads as it did. -/
def overrideHoldUptoRow : OpenClaim := { program := "yticldimccdceaaa", sum := "e730efd376585c98da073b22dd09a111a34ef8da44914b5f8b2f361ea8ced959", func := "cnc/cnclaw35.OverrideHold", spec := "overrideHold", apart := false, narrowed := true }
def OverrideHoldUptoSaid : Prop := overrideHoldUptoRow.holds Try.pinned (OpenSpec.upto overrideHoldSpec)

/-- 'cnclaw35.OverrideOrder', WHERE WHAT IT READS IS OF BULK AT MOST 1048576: true; the input reads as it did. -/
def overrideOrderUptoRow : OpenClaim := { program := "yticldimccdceaaa", sum := "e730efd376585c98da073b22dd09a111a34ef8da44914b5f8b2f361ea8ced959", func := "cnc/cnclaw35.OverrideOrder", spec := "overrideOrder", apart := false, narrowed := true }
def OverrideOrderUptoSaid : Prop := overrideOrderUptoRow.holds Try.pinned (OpenSpec.upto overrideOrderSpec)

/-- 'cnclaw35.OverrideExact', WHERE WHAT IT READS IS OF BULK AT MOST 1048576: true; the input reads as it did. -/
def overrideExactUptoRow : OpenClaim := { program := "yticldimccdceaaa", sum := "e730efd376585c98da073b22dd09a111a34ef8da44914b5f8b2f361ea8ced959", func := "cnc/cnclaw35.OverrideExact", spec := "overrideExact", apart := false, narrowed := true }
def OverrideExactUptoSaid : Prop := overrideExactUptoRow.holds Try.pinned (OpenSpec.upto overrideExactSpec)

/-- 'cnclaw35.OverrideApply', WHERE WHAT IT READS IS OF BULK AT MOST 1048576: true; the input reads as it did. -/
def overrideApplyUptoRow : OpenClaim := { program := "yticldimccdceaaa", sum := "e730efd376585c98da073b22dd09a111a34ef8da44914b5f8b2f361ea8ced959", func := "cnc/cnclaw35.OverrideApply", spec := "overrideApply", apart := false, narrowed := true }
def OverrideApplyUptoSaid : Prop := overrideApplyUptoRow.holds Try.pinned (OpenSpec.upto overrideApplySpec)

end Rows
end Go.Proofs.Yticldimccdceaaa
