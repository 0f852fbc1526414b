/-
  No cell of these rows narrows 'for every input' (looked for: loops, veiled, ifaces, maps, wideKeys, modest, calm, conditions, laid).
  DERIVED. THE GIVEN ROWS OF THIS SEAT. 8 by the template 'for every input the law returns true; each argument reads behind the call as it read before'; 0 by the template 'total and deterministic' (their statements: YtbhinbhppddifaaTotals.lean).
  GIVEN WITH THE SEED: the statements are not yours to turn. If you find one false, say at which input.
  Laid BY PROGRAM, IN A SANDBOX (cutbox-rows.mjs): the forced cells as the released guide's own fill.sh prints them over the translation 235b1878e9f77da8… (all of the seat's roots in one cut). By AI agents, Wed Nov 11 2026. No macro, syntax, notation, axiom, sorry.
-/
import Derived.Test.YtbhinbhppddifaaChecked
import GoSem.Claim
import GoSem.ClaimJoined
import GoSem.ClaimMapViews
import Derived.JoinedTies
import Derived.KernelRfl
namespace Go.Proofs.Ytbhinbhppddifaa
/- THE CELL 'sum', in the pinned program and in every row, IS THE sha256 OF THE DUMP (.gsa) THAT YtbhinbhppddifaaProg.lean LOADS. Nothing in Lean hashes anything: it is a label: what it is worth is what the hold of that sum in a sandbox is worth. -/
noncomputable def Try.pinned : Pinned := { name := "ytbhinbhppddifaa", sum := "235b1878e9f77da82824251d92564f8b55f9c9e5278d224b3d42b222d4015c2b", checked := Try.checked }
namespace Rows
def none {H : Type} : Left H := { results := [], args := [] }

/-- 'cnclaw32.ProfileValid': WHATEVER THE INPUT: true; the input reads as it did. -/
def profileValidSpec : ChangeSpec := { name := "profileValid", fn := fun _ => fun
  | [d] => { results := [.lit (.bool true)], args := [d] }
  | _ => none }
def profileValidRow : OpenClaim := { program := "ytbhinbhppddifaa", sum := "235b1878e9f77da82824251d92564f8b55f9c9e5278d224b3d42b222d4015c2b", func := "cnc/cnclaw32.ProfileValid", spec := "profileValid", apart := false }
def ProfileValidSaid : Prop := profileValidRow.holds Try.pinned (OpenSpec.ofChange profileValidSpec)

/-- ITS FALSE NEIGHBOUR: 'it returns false'. Refute it at one input. -/
def profileValidWrong : ChangeSpec := { name := "profileValid", fn := fun _ => fun
  | [d] => { results := [.lit (.bool false)], args := [d] }
  | _ => none }
def ProfileValidWrongFalsely : Prop := profileValidRow.holds Try.pinned (OpenSpec.ofChange profileValidWrong)

/-- 'cnclaw32.ProfileLoss': WHATEVER THE INPUT: true; the input reads as it did. -/
def profileLossSpec : ChangeSpec := { name := "profileLoss", fn := fun _ => fun
  | [d1, d2, d3, d4] => { results := [.lit (.bool true)], args := [d1, d2, d3, d4] }
  | _ => none }
def profileLossRow : OpenClaim := { program := "ytbhinbhppddifaa", sum := "235b1878e9f77da82824251d92564f8b55f9c9e5278d224b3d42b222d4015c2b", func := "cnc/cnclaw32.ProfileLoss", spec := "profileLoss", apart := false }
def ProfileLossSaid : Prop := profileLossRow.holds Try.pinned (OpenSpec.ofChange profileLossSpec)

/-- ITS FALSE NEIGHBOUR: 'it returns false'. Refute it at one input. -/
def profileLossWrong : ChangeSpec := { name := "profileLoss", fn := fun _ => fun
  | [d1, d2, d3, d4] => { results := [.lit (.bool false)], args := [d1, d2, d3, d4] }
  | _ => none }
def ProfileLossWrongFalsely : Prop := profileLossRow.holds Try.pinned (OpenSpec.ofChange profileLossWrong)

/-- 'cnclaw32.ProfileBrake': WHATEVER THE INPUT: true; the input reads as it did. -/
def profileBrakeSpec : ChangeSpec := { name := "profileBrake", fn := fun _ => fun
  | [d1, d2, d3] => { results := [.lit (.bool true)], args := [d1, d2, d3] }
  | _ => none }
def profileBrakeRow : OpenClaim := { program := "ytbhinbhppddifaa", sum := "235b1878e9f77da82824251d92564f8b55f9c9e5278d224b3d42b222d4015c2b", func := "cnc/cnclaw32.ProfileBrake", spec := "profileBrake", apart := false }
def ProfileBrakeSaid : Prop := profileBrakeRow.holds Try.pinned (OpenSpec.ofChange profileBrakeSpec)

/-- ITS FALSE NEIGHBOUR: 'it returns false'. Refute it at one input. -/
def profileBrakeWrong : ChangeSpec := { name := "profileBrake", fn := fun _ => fun
  | [d1, d2, d3] => { results := [.lit (.bool false)], args := [d1, d2, d3] }
  | _ => none }
def ProfileBrakeWrongFalsely : Prop := profileBrakeRow.holds Try.pinned (OpenSpec.ofChange profileBrakeWrong)

/-- 'cnclaw32.ProfileGreatest': WHATEVER THE INPUT: true; the input reads as it did. -/
def profileGreatestSpec : ChangeSpec := { name := "profileGreatest", fn := fun _ => fun
  | [d1, d2, d3] => { results := [.lit (.bool true)], args := [d1, d2, d3] }
  | _ => none }
def profileGreatestRow : OpenClaim := { program := "ytbhinbhppddifaa", sum := "235b1878e9f77da82824251d92564f8b55f9c9e5278d224b3d42b222d4015c2b", func := "cnc/cnclaw32.ProfileGreatest", spec := "profileGreatest", apart := false }
def ProfileGreatestSaid : Prop := profileGreatestRow.holds Try.pinned (OpenSpec.ofChange profileGreatestSpec)

/-- ITS FALSE NEIGHBOUR: 'it returns false'. Refute it at one input. -/
def profileGreatestWrong : ChangeSpec := { name := "profileGreatest", fn := fun _ => fun
  | [d1, d2, d3] => { results := [.lit (.bool false)], args := [d1, d2, d3] }
  | _ => none }
def ProfileGreatestWrongFalsely : Prop := profileGreatestRow.holds Try.pinned (OpenSpec.ofChange profileGreatestWrong)

/-- 'cnclaw32.ProfileClosed': WHATEVER THE INPUT: true; the input reads as it did. -/
def profileClosedSpec : ChangeSpec := { name := "profileClosed", fn := fun _ => fun
  | [d1, d2, d3] => { results := [.lit (.bool true)], args := [d1, d2, d3] }
  | _ => none }
def profileClosedRow : OpenClaim := { program := "ytbhinbhppddifaa", sum := "235b1878e9f77da82824251d92564f8b55f9c9e5278d224b3d42b222d4015c2b", func := "cnc/cnclaw32.ProfileClosed", spec := "profileClosed", apart := false }
def ProfileClosedSaid : Prop := profileClosedRow.holds Try.pinned (OpenSpec.ofChange profileClosedSpec)

/-- ITS FALSE NEIGHBOUR: 'it returns false'. Refute it at one input. -/
def profileClosedWrong : ChangeSpec := { name := "profileClosed", fn := fun _ => fun
  | [d1, d2, d3] => { results := [.lit (.bool false)], args := [d1, d2, d3] }
  | _ => none }
def ProfileClosedWrongFalsely : Prop := profileClosedRow.holds Try.pinned (OpenSpec.ofChange profileClosedWrong)

/-- 'cnclaw32.ProfileRest': WHATEVER THE INPUT: true; the input reads as it did. -/
def profileRestSpec : ChangeSpec := { name := "profileRest", fn := fun _ => fun
  | [d1, d2, d3] => { results := [.lit (.bool true)], args := [d1, d2, d3] }
  | _ => none }
def profileRestRow : OpenClaim := { program := "ytbhinbhppddifaa", sum := "235b1878e9f77da82824251d92564f8b55f9c9e5278d224b3d42b222d4015c2b", func := "cnc/cnclaw32.ProfileRest", spec := "profileRest", apart := false }
def ProfileRestSaid : Prop := profileRestRow.holds Try.pinned (OpenSpec.ofChange profileRestSpec)

/-- ITS FALSE NEIGHBOUR: 'it returns false'. Refute it at one input. -/
def profileRestWrong : ChangeSpec := { name := "profileRest", fn := fun _ => fun
  | [d1, d2, d3] => { results := [.lit (.bool false)], args := [d1, d2, d3] }
  | _ => none }
def ProfileRestWrongFalsely : Prop := profileRestRow.holds Try.pinned (OpenSpec.ofChange profileRestWrong)

/-- 'cnclaw32.ProfileSmooth': WHATEVER THE INPUT: true; the input reads as it did. -/
def profileSmoothSpec : ChangeSpec := { name := "profileSmooth", fn := fun _ => fun
  | [d1, d2, d3] => { results := [.lit (.bool true)], args := [d1, d2, d3] }
  | _ => none }
def profileSmoothRow : OpenClaim := { program := "ytbhinbhppddifaa", sum := "235b1878e9f77da82824251d92564f8b55f9c9e5278d224b3d42b222d4015c2b", func := "cnc/cnclaw32.ProfileSmooth", spec := "profileSmooth", apart := false }
def ProfileSmoothSaid : Prop := profileSmoothRow.holds Try.pinned (OpenSpec.ofChange profileSmoothSpec)

/-- ITS FALSE NEIGHBOUR: 'it returns false'. Refute it at one input. -/
def profileSmoothWrong : ChangeSpec := { name := "profileSmooth", fn := fun _ => fun
  | [d1, d2, d3] => { results := [.lit (.bool false)], args := [d1, d2, d3] }
  | _ => none }
def ProfileSmoothWrongFalsely : Prop := profileSmoothRow.holds Try.pinned (OpenSpec.ofChange profileSmoothWrong)

/-- 'cnclaw32.ProfileStop': WHATEVER THE INPUT: true; the input reads as it did. -/
def profileStopSpec : ChangeSpec := { name := "profileStop", fn := fun _ => fun
  | [d1, d2, d3] => { results := [.lit (.bool true)], args := [d1, d2, d3] }
  | _ => none }
def profileStopRow : OpenClaim := { program := "ytbhinbhppddifaa", sum := "235b1878e9f77da82824251d92564f8b55f9c9e5278d224b3d42b222d4015c2b", func := "cnc/cnclaw32.ProfileStop", spec := "profileStop", apart := false }
def ProfileStopSaid : Prop := profileStopRow.holds Try.pinned (OpenSpec.ofChange profileStopSpec)

/-- ITS FALSE NEIGHBOUR: 'it returns false'. Refute it at one input. -/
def profileStopWrong : ChangeSpec := { name := "profileStop", fn := fun _ => fun
  | [d1, d2, d3] => { results := [.lit (.bool false)], args := [d1, d2, d3] }
  | _ => none }
def ProfileStopWrongFalsely : Prop := profileStopRow.holds Try.pinned (OpenSpec.ofChange profileStopWrong)

/- THE SECOND FORM. 'bulk': how many values and letters a reading holds, each counted each time it is reached (what is shared counts as often as it is met; a slice's spare places count too). A statement '..UptoSaid' is the law's where the arguments, and the package variables that the reading takes, are together of bulk at most 1048576: NARROWER than '..Said'. Prove '..Said' where nothing that the law and all that it calls make is longer than what came in: it says more and counts as full. Else prove '..UptoSaid'. A law counts once. -/
mutual
def uptoBulk {H : Type} : DataW H → Nat
  | .lit (.string bytes) => bytes.length + 1
  | .lit _ => 1
  | .nil => 1
  | .ptr d => uptoBulk d + 1
  | .slice elems spare => uptoBulkAll elems + uptoBulkAll spare + 1
  | .agg parts => uptoBulkAll parts + 1
  | .iface _ d => uptoBulk d + 1
  | .map entries => uptoBulkEntries entries + 1
  | .held _ => 1
def uptoBulkAll {H : Type} : List (DataW H) → Nat
  | [] => 0
  | d :: r => uptoBulk d + uptoBulkAll r
def uptoBulkEntries {H : Type} : List (Lit × DataW H) → Nat
  | [] => 0
  | x :: r => uptoBulkEntry x + uptoBulkEntries r
def uptoBulkEntry {H : Type} : Lit × DataW H → Nat
  | (.string bytes, d) => bytes.length + uptoBulk d + 1
  | (_, d) => uptoBulk d + 1
 end
def uptoSmall : (H : Type) → List (DataW H) → Bool := fun _ ds => decide (uptoBulkAll ds ≤ 1048576)
def OpenSpec.upto (s : _root_.Go.ChangeSpec) : _root_.Go.OpenSpec := { _root_.Go.OpenSpec.ofChange s with cond := some uptoSmall }

/-- 'cnclaw32.ProfileValid', WHERE WHAT IT READS IS OF BULK AT MOST 1048576: true; the input reads as it did. -/
def profileValidUptoRow : OpenClaim := { program := "ytbhinbhppddifaa", sum := "235b1878e9f77da82824251d92564f8b55f9c9e5278d224b3d42b222d4015c2b", func := "cnc/cnclaw32.ProfileValid", spec := "profileValid", apart := false, narrowed := true }
def ProfileValidUptoSaid : Prop := profileValidUptoRow.holds Try.pinned (OpenSpec.upto profileValidSpec)

/-- 'cnclaw32.ProfileLoss', WHERE WHAT IT READS IS OF BULK AT MOST 1048576: true; the input reads as it did. -/
def profileLossUptoRow : OpenClaim := { program := "ytbhinbhppddifaa", sum := "235b1878e9f77da82824251d92564f8b55f9c9e5278d224b3d42b222d4015c2b", func := "cnc/cnclaw32.ProfileLoss", spec := "profileLoss", apart := false, narrowed := true }
def ProfileLossUptoSaid : Prop := profileLossUptoRow.holds Try.pinned (OpenSpec.upto profileLossSpec)

/-- 'cnclaw32.ProfileBrake', WHERE WHAT IT READS IS OF BULK AT MOST 1048576: true; the input reads as it did. -/
def profileBrakeUptoRow : OpenClaim := { program := "ytbhinbhppddifaa", sum := "235b1878e9f77da82824251d92564f8b55f9c9e5278d224b3d42b222d4015c2b", func := "cnc/cnclaw32.ProfileBrake", spec := "profileBrake", apart := false, narrowed := true }
def ProfileBrakeUptoSaid : Prop := profileBrakeUptoRow.holds Try.pinned (OpenSpec.upto profileBrakeSpec)

/-- 'cnclaw32.ProfileGreatest', WHERE WHAT IT READS IS OF BULK AT MOST 1048576: true; the input reads as it did. -/
def profileGreatestUptoRow : OpenClaim := { program := "ytbhinbhppddifaa", sum := "235b1878e9f77da82824251d92564f8b55f9c9e5278d224b3d42b222d4015c2b", func := "cnc/cnclaw32.ProfileGreatest", spec := "profileGreatest", apart := false, narrowed := true }
def ProfileGreatestUptoSaid : Prop := profileGreatestUptoRow.holds Try.pinned (OpenSpec.upto profileGreatestSpec)

/-- 'cnclaw32.ProfileClosed', WHERE WHAT IT READS IS OF BULK AT MOST 1048576: true; the input reads as it did. -/
def profileClosedUptoRow : OpenClaim := { program := "ytbhinbhppddifaa", sum := "235b1878e9f77da82824251d92564f8b55f9c9e5278d224b3d42b222d4015c2b", func := "cnc/cnclaw32.ProfileClosed", spec := "profileClosed", apart := false, narrowed := true }
def ProfileClosedUptoSaid : Prop := profileClosedUptoRow.holds Try.pinned (OpenSpec.upto profileClosedSpec)

/-- 'cnclaw32.ProfileRest', WHERE WHAT IT READS IS OF BULK AT MOST 1048576: true; the input reads as it did. -/
def profileRestUptoRow : OpenClaim := { program := "ytbhinbhppddifaa", sum := "235b1878e9f77da82824251d92564f8b55f9c9e5278d224b3d42b222d4015c2b", func := "cnc/cnclaw32.ProfileRest", spec := "profileRest", apart := false, narrowed := true }
def ProfileRestUptoSaid : Prop := profileRestUptoRow.holds Try.pinned (OpenSpec.upto profileRestSpec)

/-- 'cnclaw32.ProfileSmooth', WHERE WHAT IT READS IS OF BULK AT MOST 1048576: true; the input reads as it did. -/
def profileSmoothUptoRow : OpenClaim := { program := "ytbhinbhppddifaa", sum := "235b1878e9f77da82824251d92564f8b55f9c9e5278d224b3d42b222d4015c2b", func := "cnc/cnclaw32.ProfileSmooth", spec := "profileSmooth", apart := false, narrowed := true }
def ProfileSmoothUptoSaid : Prop := profileSmoothUptoRow.holds Try.pinned (OpenSpec.upto profileSmoothSpec)

/-- 'cnclaw32.ProfileStop', WHERE WHAT IT READS IS OF BULK AT MOST 1048576: true; the input reads as it did. -/
def profileStopUptoRow : OpenClaim := { program := "ytbhinbhppddifaa", sum := "235b1878e9f77da82824251d92564f8b55f9c9e5278d224b3d42b222d4015c2b", func := "cnc/cnclaw32.ProfileStop", spec := "profileStop", apart := false, narrowed := true }
def ProfileStopUptoSaid : Prop := profileStopUptoRow.holds Try.pinned (OpenSpec.upto profileStopSpec)

end Rows
end Go.Proofs.Ytbhinbhppddifaa
