/-
  No cell of these rows narrows 'for every input' (looked for: loops, veiled, ifaces, maps, wideKeys, modest, calm, conditions, laid).
  DERIVED. THE GIVEN ROWS OF THIS SEAT. 10 by the template 'for every input the law returns true; each argument reads behind the call as it read before'; 0 by the template 'total and deterministic' (their statements: YtommijghjlikkaaGreatTotals.lean).
  GIVEN WITH THE SEED: the statements are not yours to turn. If you find one false, say at which input.
  Laid BY PROGRAM, IN A SANDBOX (cutbox-rows.mjs): the forced cells as the released guide's own fill.sh prints them over the translation 6f8e99e78488bb14… (all of the seat's roots in one cut). By AI agents, Wed Nov 11 2026. No macro, syntax, notation, axiom, sorry.
-/
import Derived.Test.YtommijghjlikkaaGreatChecked
import GoSem.Claim
import GoSem.ClaimJoined
import GoSem.ClaimMapViews
import Derived.JoinedTies
import Derived.KernelRfl
namespace Go.Proofs.YtommijghjlikkaaGreat
/- THE CELL 'sum', in the pinned program and in every row, IS THE sha256 OF THE DUMP (.gsa) THAT YtommijghjlikkaaGreatProg.lean LOADS. Nothing in Lean hashes anything: it is a label: what it is worth is what the hold of that sum in a sandbox is worth. -/
noncomputable def Tryz.pinned : Pinned := { name := "ytommijghjlikkaagreat", sum := "6f8e99e78488bb14f5ab9919169c4c28f75f154c16f0a863f744b4a5efb2534e", checked := Tryz.checked }
namespace Rows
def none {H : Type} : Left H := { results := [], args := [] }

/-- 'cnclaw43.ControllerPulses': WHATEVER THE INPUT: true; the input reads as it did. -/
def controllerPulsesSpec : ChangeSpec := { name := "controllerPulses", fn := fun _ => fun
  | [d1, d2, d3, d4, d5] => { results := [.lit (.bool true)], args := [d1, d2, d3, d4, d5] }
  | _ => none }
def controllerPulsesRow : OpenClaim := { program := "ytommijghjlikkaagreat", sum := "6f8e99e78488bb14f5ab9919169c4c28f75f154c16f0a863f744b4a5efb2534e", func := "cnc/cnclaw43.ControllerPulses", spec := "controllerPulses", inPlace := ["math/bits.Sub64"], unfollowed := true, recurses := true, named := ["math/bits.divideError", "math/bits.overflowError"], apart := false }
def ControllerPulsesSaid : Prop := controllerPulsesRow.holds Tryz.pinned (OpenSpec.ofChange controllerPulsesSpec)

/-- ITS FALSE NEIGHBOUR: 'it returns false'. Refute it at one input. -/
def controllerPulsesWrong : ChangeSpec := { name := "controllerPulses", fn := fun _ => fun
  | [d1, d2, d3, d4, d5] => { results := [.lit (.bool false)], args := [d1, d2, d3, d4, d5] }
  | _ => none }
def ControllerPulsesWrongFalsely : Prop := controllerPulsesRow.holds Tryz.pinned (OpenSpec.ofChange controllerPulsesWrong)

/-- 'cnclaw43.ControllerDrift': WHATEVER THE INPUT: true; the input reads as it did. -/
def controllerDriftSpec : ChangeSpec := { name := "controllerDrift", fn := fun _ => fun
  | [d1, d2, d3, d4, d5] => { results := [.lit (.bool true)], args := [d1, d2, d3, d4, d5] }
  | _ => none }
def controllerDriftRow : OpenClaim := { program := "ytommijghjlikkaagreat", sum := "6f8e99e78488bb14f5ab9919169c4c28f75f154c16f0a863f744b4a5efb2534e", func := "cnc/cnclaw43.ControllerDrift", spec := "controllerDrift", inPlace := ["math/bits.Sub64"], unfollowed := true, recurses := true, named := ["math/bits.divideError", "math/bits.overflowError"], apart := false }
def ControllerDriftSaid : Prop := controllerDriftRow.holds Tryz.pinned (OpenSpec.ofChange controllerDriftSpec)

/-- ITS FALSE NEIGHBOUR: 'it returns false'. Refute it at one input. -/
def controllerDriftWrong : ChangeSpec := { name := "controllerDrift", fn := fun _ => fun
  | [d1, d2, d3, d4, d5] => { results := [.lit (.bool false)], args := [d1, d2, d3, d4, d5] }
  | _ => none }
def ControllerDriftWrongFalsely : Prop := controllerDriftRow.holds Tryz.pinned (OpenSpec.ofChange controllerDriftWrong)

/-- 'cnclaw43.ControllerLimits': WHATEVER THE INPUT: true; the input reads as it did. -/
def controllerLimitsSpec : ChangeSpec := { name := "controllerLimits", fn := fun _ => fun
  | [d1, d2, d3, d4, d5] => { results := [.lit (.bool true)], args := [d1, d2, d3, d4, d5] }
  | _ => none }
def controllerLimitsRow : OpenClaim := { program := "ytommijghjlikkaagreat", sum := "6f8e99e78488bb14f5ab9919169c4c28f75f154c16f0a863f744b4a5efb2534e", func := "cnc/cnclaw43.ControllerLimits", spec := "controllerLimits", inPlace := ["math/bits.Sub64"], unfollowed := true, recurses := true, named := ["math/bits.divideError", "math/bits.overflowError"], apart := false }
def ControllerLimitsSaid : Prop := controllerLimitsRow.holds Tryz.pinned (OpenSpec.ofChange controllerLimitsSpec)

/-- ITS FALSE NEIGHBOUR: 'it returns false'. Refute it at one input. -/
def controllerLimitsWrong : ChangeSpec := { name := "controllerLimits", fn := fun _ => fun
  | [d1, d2, d3, d4, d5] => { results := [.lit (.bool false)], args := [d1, d2, d3, d4, d5] }
  | _ => none }
def ControllerLimitsWrongFalsely : Prop := controllerLimitsRow.holds Tryz.pinned (OpenSpec.ofChange controllerLimitsWrong)

/-- 'cnclaw43.ControllerOutputs': WHATEVER THE INPUT: true; the input reads as it did. -/
def controllerOutputsSpec : ChangeSpec := { name := "controllerOutputs", fn := fun _ => fun
  | [d1, d2, d3, d4, d5] => { results := [.lit (.bool true)], args := [d1, d2, d3, d4, d5] }
  | _ => none }
def controllerOutputsRow : OpenClaim := { program := "ytommijghjlikkaagreat", sum := "6f8e99e78488bb14f5ab9919169c4c28f75f154c16f0a863f744b4a5efb2534e", func := "cnc/cnclaw43.ControllerOutputs", spec := "controllerOutputs", inPlace := ["math/bits.Sub64"], unfollowed := true, recurses := true, named := ["math/bits.divideError", "math/bits.overflowError"], apart := false }
def ControllerOutputsSaid : Prop := controllerOutputsRow.holds Tryz.pinned (OpenSpec.ofChange controllerOutputsSpec)

/-- ITS FALSE NEIGHBOUR: 'it returns false'. Refute it at one input. -/
def controllerOutputsWrong : ChangeSpec := { name := "controllerOutputs", fn := fun _ => fun
  | [d1, d2, d3, d4, d5] => { results := [.lit (.bool false)], args := [d1, d2, d3, d4, d5] }
  | _ => none }
def ControllerOutputsWrongFalsely : Prop := controllerOutputsRow.holds Tryz.pinned (OpenSpec.ofChange controllerOutputsWrong)

/-- 'cnclaw43.ControllerSingle': WHATEVER THE INPUT: true; the input reads as it did. -/
def controllerSingleSpec : ChangeSpec := { name := "controllerSingle", fn := fun _ => fun
  | [d1, d2, d3, d4] => { results := [.lit (.bool true)], args := [d1, d2, d3, d4] }
  | _ => none }
def controllerSingleRow : OpenClaim := { program := "ytommijghjlikkaagreat", sum := "6f8e99e78488bb14f5ab9919169c4c28f75f154c16f0a863f744b4a5efb2534e", func := "cnc/cnclaw43.ControllerSingle", spec := "controllerSingle", inPlace := ["math/bits.Sub64"], unfollowed := true, recurses := true, named := ["math/bits.divideError", "math/bits.overflowError"], apart := false }
def ControllerSingleSaid : Prop := controllerSingleRow.holds Tryz.pinned (OpenSpec.ofChange controllerSingleSpec)

/-- ITS FALSE NEIGHBOUR: 'it returns false'. Refute it at one input. -/
def controllerSingleWrong : ChangeSpec := { name := "controllerSingle", fn := fun _ => fun
  | [d1, d2, d3, d4] => { results := [.lit (.bool false)], args := [d1, d2, d3, d4] }
  | _ => none }
def ControllerSingleWrongFalsely : Prop := controllerSingleRow.holds Tryz.pinned (OpenSpec.ofChange controllerSingleWrong)

/-- 'cnclaw43.ControllerKnown': WHATEVER THE INPUT: true; the input reads as it did. -/
def controllerKnownSpec : ChangeSpec := { name := "controllerKnown", fn := fun _ => fun
  | [d1, d2, d3, d4, d5] => { results := [.lit (.bool true)], args := [d1, d2, d3, d4, d5] }
  | _ => none }
def controllerKnownRow : OpenClaim := { program := "ytommijghjlikkaagreat", sum := "6f8e99e78488bb14f5ab9919169c4c28f75f154c16f0a863f744b4a5efb2534e", func := "cnc/cnclaw43.ControllerKnown", spec := "controllerKnown", inPlace := ["math/bits.Sub64"], unfollowed := true, recurses := true, named := ["math/bits.divideError", "math/bits.overflowError"], apart := false }
def ControllerKnownSaid : Prop := controllerKnownRow.holds Tryz.pinned (OpenSpec.ofChange controllerKnownSpec)

/-- ITS FALSE NEIGHBOUR: 'it returns false'. Refute it at one input. -/
def controllerKnownWrong : ChangeSpec := { name := "controllerKnown", fn := fun _ => fun
  | [d1, d2, d3, d4, d5] => { results := [.lit (.bool false)], args := [d1, d2, d3, d4, d5] }
  | _ => none }
def ControllerKnownWrongFalsely : Prop := controllerKnownRow.holds Tryz.pinned (OpenSpec.ofChange controllerKnownWrong)

/-- 'cnclaw43.ControllerFault': WHATEVER THE INPUT: true; the input reads as it did. -/
def controllerFaultSpec : ChangeSpec := { name := "controllerFault", fn := fun _ => fun
  | [d1, d2, d3, d4, d5] => { results := [.lit (.bool true)], args := [d1, d2, d3, d4, d5] }
  | _ => none }
def controllerFaultRow : OpenClaim := { program := "ytommijghjlikkaagreat", sum := "6f8e99e78488bb14f5ab9919169c4c28f75f154c16f0a863f744b4a5efb2534e", func := "cnc/cnclaw43.ControllerFault", spec := "controllerFault", inPlace := ["math/bits.Sub64"], unfollowed := true, recurses := true, named := ["math/bits.divideError", "math/bits.overflowError"], apart := false }
def ControllerFaultSaid : Prop := controllerFaultRow.holds Tryz.pinned (OpenSpec.ofChange controllerFaultSpec)

/-- ITS FALSE NEIGHBOUR: 'it returns false'. Refute it at one input. -/
def controllerFaultWrong : ChangeSpec := { name := "controllerFault", fn := fun _ => fun
  | [d1, d2, d3, d4, d5] => { results := [.lit (.bool false)], args := [d1, d2, d3, d4, d5] }
  | _ => none }
def ControllerFaultWrongFalsely : Prop := controllerFaultRow.holds Tryz.pinned (OpenSpec.ofChange controllerFaultWrong)

/-- 'cnclaw43.ControllerPower': WHATEVER THE INPUT: true; the input reads as it did. -/
def controllerPowerSpec : ChangeSpec := { name := "controllerPower", fn := fun _ => fun
  | [d1, d2, d3, d4, d5] => { results := [.lit (.bool true)], args := [d1, d2, d3, d4, d5] }
  | _ => none }
def controllerPowerRow : OpenClaim := { program := "ytommijghjlikkaagreat", sum := "6f8e99e78488bb14f5ab9919169c4c28f75f154c16f0a863f744b4a5efb2534e", func := "cnc/cnclaw43.ControllerPower", spec := "controllerPower", inPlace := ["math/bits.Sub64"], unfollowed := true, recurses := true, named := ["math/bits.divideError", "math/bits.overflowError"], apart := false }
def ControllerPowerSaid : Prop := controllerPowerRow.holds Tryz.pinned (OpenSpec.ofChange controllerPowerSpec)

/-- ITS FALSE NEIGHBOUR: 'it returns false'. Refute it at one input. -/
def controllerPowerWrong : ChangeSpec := { name := "controllerPower", fn := fun _ => fun
  | [d1, d2, d3, d4, d5] => { results := [.lit (.bool false)], args := [d1, d2, d3, d4, d5] }
  | _ => none }
def ControllerPowerWrongFalsely : Prop := controllerPowerRow.holds Tryz.pinned (OpenSpec.ofChange controllerPowerWrong)

/-- 'cnclaw43.ControllerRetrace': WHATEVER THE INPUT: true; the input reads as it did. -/
def controllerRetraceSpec : ChangeSpec := { name := "controllerRetrace", fn := fun _ => fun
  | [d1, d2, d3, d4, d5] => { results := [.lit (.bool true)], args := [d1, d2, d3, d4, d5] }
  | _ => none }
def controllerRetraceRow : OpenClaim := { program := "ytommijghjlikkaagreat", sum := "6f8e99e78488bb14f5ab9919169c4c28f75f154c16f0a863f744b4a5efb2534e", func := "cnc/cnclaw43.ControllerRetrace", spec := "controllerRetrace", inPlace := ["math/bits.Sub64"], unfollowed := true, recurses := true, named := ["math/bits.divideError", "math/bits.overflowError"], apart := false }
def ControllerRetraceSaid : Prop := controllerRetraceRow.holds Tryz.pinned (OpenSpec.ofChange controllerRetraceSpec)

/-- ITS FALSE NEIGHBOUR: 'it returns false'. Refute it at one input. -/
def controllerRetraceWrong : ChangeSpec := { name := "controllerRetrace", fn := fun _ => fun
  | [d1, d2, d3, d4, d5] => { results := [.lit (.bool false)], args := [d1, d2, d3, d4, d5] }
  | _ => none }
def ControllerRetraceWrongFalsely : Prop := controllerRetraceRow.holds Tryz.pinned (OpenSpec.ofChange controllerRetraceWrong)

/-- 'cnclaw43.ControllerTap': WHATEVER THE INPUT: true; the input reads as it did. -/
def controllerTapSpec : ChangeSpec := { name := "controllerTap", fn := fun _ => fun
  | [d1, d2, d3, d4, d5] => { results := [.lit (.bool true)], args := [d1, d2, d3, d4, d5] }
  | _ => none }
def controllerTapRow : OpenClaim := { program := "ytommijghjlikkaagreat", sum := "6f8e99e78488bb14f5ab9919169c4c28f75f154c16f0a863f744b4a5efb2534e", func := "cnc/cnclaw43.ControllerTap", spec := "controllerTap", inPlace := ["math/bits.Sub64"], unfollowed := true, recurses := true, named := ["math/bits.divideError", "math/bits.overflowError"], apart := false }
def ControllerTapSaid : Prop := controllerTapRow.holds Tryz.pinned (OpenSpec.ofChange controllerTapSpec)

/-- ITS FALSE NEIGHBOUR: 'it returns false'. Refute it at one input. -/
def controllerTapWrong : ChangeSpec := { name := "controllerTap", fn := fun _ => fun
  | [d1, d2, d3, d4, d5] => { results := [.lit (.bool false)], args := [d1, d2, d3, d4, d5] }
  | _ => none }
def ControllerTapWrongFalsely : Prop := controllerTapRow.holds Tryz.pinned (OpenSpec.ofChange controllerTapWrong)

/- THE SECOND FORM. 'bulk': how many values and letters a reading holds, each counted each time it is reached (what is shared counts as often as it is met; a slice's spare places count too). A statement '..UptoSaid' is the law's where the arguments, and the package variables that the reading takes, are together of bulk at most 1048576: NARROWER than '..Said'. Prove '..Said' where nothing that the law and all that it calls make is longer than what came in: it says more and counts as full. Else prove '..UptoSaid'. A law counts once. -/
mutual
def uptoBulk {H : Type} : DataW H → Nat
  | .lit (.string bytes) => bytes.length + 1
  | .lit _ => 1
  | .nil => 1
  | .ptr d => uptoBulk d + 1
  | .slice elems spare => uptoBulkAll elems + uptoBulkAll spare + 1
  | .agg parts => uptoBulkAll parts + 1
  | .iface _ d => uptoBulk d + 1
  | .map entries => uptoBulkEntries entries + 1
  | .held _ => 1
def uptoBulkAll {H : Type} : List (DataW H) → Nat
  | [] => 0
  | d :: r => uptoBulk d + uptoBulkAll r
def uptoBulkEntries {H : Type} : List (Lit × DataW H) → Nat
  | [] => 0
  | x :: r => uptoBulkEntry x + uptoBulkEntries r
def uptoBulkEntry {H : Type} : Lit × DataW H → Nat
  | (.string bytes, d) => bytes.length + uptoBulk d + 1
  | (_, d) => uptoBulk d + 1
 end
def uptoSmall : (H : Type) → List (DataW H) → Bool := fun _ ds => decide (uptoBulkAll ds ≤ 1048576)
def OpenSpec.upto (s : _root_.Go.ChangeSpec) : _root_.Go.OpenSpec := { _root_.Go.OpenSpec.ofChange s with cond := some uptoSmall }

/-- 'cnclaw43.ControllerPulses', WHERE WHAT IT READS IS OF BULK AT MOST 1048576: true; the input reads as it did. -/
def controllerPulsesUptoRow : OpenClaim := { program := "ytommijghjlikkaagreat", sum := "6f8e99e78488bb14f5ab9919169c4c28f75f154c16f0a863f744b4a5efb2534e", func := "cnc/cnclaw43.ControllerPulses", spec := "controllerPulses", inPlace := ["math/bits.Sub64"], unfollowed := true, recurses := true, named := ["math/bits.divideError", "math/bits.overflowError"], apart := false, narrowed := true }
def ControllerPulsesUptoSaid : Prop := controllerPulsesUptoRow.holds Tryz.pinned (OpenSpec.upto controllerPulsesSpec)

/-- 'cnclaw43.ControllerDrift', WHERE WHAT IT READS IS OF BULK AT MOST 1048576: true; the input reads as it did. -/
def controllerDriftUptoRow : OpenClaim := { program := "ytommijghjlikkaagreat", sum := "6f8e99e78488bb14f5ab9919169c4c28f75f154c16f0a863f744b4a5efb2534e", func := "cnc/cnclaw43.ControllerDrift", spec := "controllerDrift", inPlace := ["math/bits.Sub64"], unfollowed := true, recurses := true, named := ["math/bits.divideError", "math/bits.overflowError"], apart := false, narrowed := true }
def ControllerDriftUptoSaid : Prop := controllerDriftUptoRow.holds Tryz.pinned (OpenSpec.upto controllerDriftSpec)

/-- 'cnclaw43.ControllerLimits', WHERE WHAT IT READS IS OF BULK AT MOST 1048576: true; the input reads as it did. -/
def controllerLimitsUptoRow : OpenClaim := { program := "ytommijghjlikkaagreat", sum := "6f8e99e78488bb14f5ab9919169c4c28f75f154c16f0a863f744b4a5efb2534e", func := "cnc/cnclaw43.ControllerLimits", spec := "controllerLimits", inPlace := ["math/bits.Sub64"], unfollowed := true, recurses := true, named := ["math/bits.divideError", "math/bits.overflowError"], apart := false, narrowed := true }
def ControllerLimitsUptoSaid : Prop := controllerLimitsUptoRow.holds Tryz.pinned (OpenSpec.upto controllerLimitsSpec)

/-- 'cnclaw43.ControllerOutputs', WHERE WHAT IT READS IS OF BULK AT MOST 1048576: true; the input reads as it did. -/
def controllerOutputsUptoRow : OpenClaim := { program := "ytommijghjlikkaagreat", sum := "6f8e99e78488bb14f5ab9919169c4c28f75f154c16f0a863f744b4a5efb2534e", func := "cnc/cnclaw43.ControllerOutputs", spec := "controllerOutputs", inPlace := ["math/bits.Sub64"], unfollowed := true, recurses := true, named := ["math/bits.divideError", "math/bits.overflowError"], apart := false, narrowed := true }
def ControllerOutputsUptoSaid : Prop := controllerOutputsUptoRow.holds Tryz.pinned (OpenSpec.upto controllerOutputsSpec)

/-- 'cnclaw43.ControllerSingle', WHERE WHAT IT READS IS OF BULK AT MOST 1048576: true; the input reads as it did. -/
def controllerSingleUptoRow : OpenClaim := { program := "ytommijghjlikkaagreat", sum := "6f8e99e78488bb14f5ab9919169c4c28f75f154c16f0a863f744b4a5efb2534e", func := "cnc/cnclaw43.ControllerSingle", spec := "controllerSingle", inPlace := ["math/bits.Sub64"], unfollowed := true, recurses := true, named := ["math/bits.divideError", "math/bits.overflowError"], apart := false, narrowed := true }
def ControllerSingleUptoSaid : Prop := controllerSingleUptoRow.holds Tryz.pinned (OpenSpec.upto controllerSingleSpec)

/-- 'cnclaw43.ControllerKnown', WHERE WHAT IT READS IS OF BULK AT MOST 1048576: true; the input reads as it did. -/
def controllerKnownUptoRow : OpenClaim := { program := "ytommijghjlikkaagreat", sum := "6f8e99e78488bb14f5ab9919169c4c28f75f154c16f0a863f744b4a5efb2534e", func := "cnc/cnclaw43.ControllerKnown", spec := "controllerKnown", inPlace := ["math/bits.Sub64"], unfollowed := true, recurses := true, named := ["math/bits.divideError", "math/bits.overflowError"], apart := false, narrowed := true }
def ControllerKnownUptoSaid : Prop := controllerKnownUptoRow.holds Tryz.pinned (OpenSpec.upto controllerKnownSpec)

/-- 'cnclaw43.ControllerFault', WHERE WHAT IT READS IS OF BULK AT MOST 1048576: true; the input reads as it did. -/
def controllerFaultUptoRow : OpenClaim := { program := "ytommijghjlikkaagreat", sum := "6f8e99e78488bb14f5ab9919169c4c28f75f154c16f0a863f744b4a5efb2534e", func := "cnc/cnclaw43.ControllerFault", spec := "controllerFault", inPlace := ["math/bits.Sub64"], unfollowed := true, recurses := true, named := ["math/bits.divideError", "math/bits.overflowError"], apart := false, narrowed := true }
def ControllerFaultUptoSaid : Prop := controllerFaultUptoRow.holds Tryz.pinned (OpenSpec.upto controllerFaultSpec)

/-- 'cnclaw43.ControllerPower', WHERE WHAT IT READS IS OF BULK AT MOST 1048576: true; the input reads as it did. -/
def controllerPowerUptoRow : OpenClaim := { program := "ytommijghjlikkaagreat", sum := "6f8e99e78488bb14f5ab9919169c4c28f75f154c16f0a863f744b4a5efb2534e", func := "cnc/cnclaw43.ControllerPower", spec := "controllerPower", inPlace := ["math/bits.Sub64"], unfollowed := true, recurses := true, named := ["math/bits.divideError", "math/bits.overflowError"], apart := false, narrowed := true }
def ControllerPowerUptoSaid : Prop := controllerPowerUptoRow.holds Tryz.pinned (OpenSpec.upto controllerPowerSpec)

/-- 'cnclaw43.ControllerRetrace', WHERE WHAT IT READS IS OF BULK AT MOST 1048576: true; the input reads as it did. -/
def controllerRetraceUptoRow : OpenClaim := { program := "ytommijghjlikkaagreat", sum := "6f8e99e78488bb14f5ab9919169c4c28f75f154c16f0a863f744b4a5efb2534e", func := "cnc/cnclaw43.ControllerRetrace", spec := "controllerRetrace", inPlace := ["math/bits.Sub64"], unfollowed := true, recurses := true, named := ["math/bits.divideError", "math/bits.overflowError"], apart := false, narrowed := true }
def ControllerRetraceUptoSaid : Prop := controllerRetraceUptoRow.holds Tryz.pinned (OpenSpec.upto controllerRetraceSpec)

/-- 'cnclaw43.ControllerTap', WHERE WHAT IT READS IS OF BULK AT MOST 1048576: true; the input reads as it did. -/
def controllerTapUptoRow : OpenClaim := { program := "ytommijghjlikkaagreat", sum := "6f8e99e78488bb14f5ab9919169c4c28f75f154c16f0a863f744b4a5efb2534e", func := "cnc/cnclaw43.ControllerTap", spec := "controllerTap", inPlace := ["math/bits.Sub64"], unfollowed := true, recurses := true, named := ["math/bits.divideError", "math/bits.overflowError"], apart := false, narrowed := true }
def ControllerTapUptoSaid : Prop := controllerTapUptoRow.holds Tryz.pinned (OpenSpec.upto controllerTapSpec)

end Rows
end Go.Proofs.YtommijghjlikkaaGreat
