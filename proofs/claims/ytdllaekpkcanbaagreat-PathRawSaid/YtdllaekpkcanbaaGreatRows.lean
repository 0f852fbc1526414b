/-
  No cell of these rows narrows 'for every input' (looked for: loops, veiled, ifaces, maps, wideKeys, modest, calm, conditions, laid).
  DERIVED. THE GIVEN ROWS OF THIS SEAT. 11 by the template 'for every input the law returns true; each argument reads behind the call as it read before'; 0 by the template 'total and deterministic' (their statements: YtdllaekpkcanbaaGreatTotals.lean).
  GIVEN WITH THE SEED: the statements are not yours to turn. If you find one false, say at which input.
  Laid BY PROGRAM, IN A SANDBOX (cutbox-rows.mjs): the forced cells as the released guide's own fill.sh prints them over the translation 6164127edd093995… (all of the seat's roots in one cut). By AI agents, Wed Nov 11 2026. No macro, syntax, notation, axiom, sorry.
-/
import Derived.Test.YtdllaekpkcanbaaGreatChecked
import GoSem.Claim
import GoSem.ClaimJoined
import GoSem.ClaimMapViews
import Derived.JoinedTies
import Derived.KernelRfl
namespace Go.Proofs.YtdllaekpkcanbaaGreat
/- THE CELL 'sum', in the pinned program and in every row, IS THE sha256 OF THE DUMP (.gsa) THAT YtdllaekpkcanbaaGreatProg.lean LOADS. Nothing in Lean hashes anything: it is a label: what it is worth is what the hold of that sum in a sandbox is worth. -/
noncomputable def Tryz.pinned : Pinned := { name := "ytdllaekpkcanbaagreat", sum := "6164127edd09399584ec7e0241d4908bb79fb1348f288f7cf0814a82ee3c9346", checked := Tryz.checked }
namespace Rows
def none {H : Type} : Left H := { results := [], args := [] }

/-- 'cnclaw29.TrackMotors': WHATEVER THE INPUT: true; the input reads as it did. -/
def trackMotorsSpec : ChangeSpec := { name := "trackMotors", fn := fun _ => fun
  | [d1, d2, d3, d4, d5, d6] => { results := [.lit (.bool true)], args := [d1, d2, d3, d4, d5, d6] }
  | _ => none }
def trackMotorsRow : OpenClaim := { program := "ytdllaekpkcanbaagreat", sum := "6164127edd09399584ec7e0241d4908bb79fb1348f288f7cf0814a82ee3c9346", func := "cnc/cnclaw29.TrackMotors", spec := "trackMotors", unfollowed := true, recurses := true, named := ["math/bits.divideError", "math/bits.overflowError"], apart := false }
def TrackMotorsSaid : Prop := trackMotorsRow.holds Tryz.pinned (OpenSpec.ofChange trackMotorsSpec)

/-- ITS FALSE NEIGHBOUR: 'it returns false'. Refute it at one input. -/
def trackMotorsWrong : ChangeSpec := { name := "trackMotors", fn := fun _ => fun
  | [d1, d2, d3, d4, d5, d6] => { results := [.lit (.bool false)], args := [d1, d2, d3, d4, d5, d6] }
  | _ => none }
def TrackMotorsWrongFalsely : Prop := trackMotorsRow.holds Tryz.pinned (OpenSpec.ofChange trackMotorsWrong)

/-- 'cnclaw29.TrackUnit': WHATEVER THE INPUT: true; the input reads as it did. -/
def trackUnitSpec : ChangeSpec := { name := "trackUnit", fn := fun _ => fun
  | [d1, d2, d3, d4, d5] => { results := [.lit (.bool true)], args := [d1, d2, d3, d4, d5] }
  | _ => none }
def trackUnitRow : OpenClaim := { program := "ytdllaekpkcanbaagreat", sum := "6164127edd09399584ec7e0241d4908bb79fb1348f288f7cf0814a82ee3c9346", func := "cnc/cnclaw29.TrackUnit", spec := "trackUnit", unfollowed := true, recurses := true, named := ["math/bits.divideError", "math/bits.overflowError"], apart := false }
def TrackUnitSaid : Prop := trackUnitRow.holds Tryz.pinned (OpenSpec.ofChange trackUnitSpec)

/-- ITS FALSE NEIGHBOUR: 'it returns false'. Refute it at one input. -/
def trackUnitWrong : ChangeSpec := { name := "trackUnit", fn := fun _ => fun
  | [d1, d2, d3, d4, d5] => { results := [.lit (.bool false)], args := [d1, d2, d3, d4, d5] }
  | _ => none }
def TrackUnitWrongFalsely : Prop := trackUnitRow.holds Tryz.pinned (OpenSpec.ofChange trackUnitWrong)

/-- 'cnclaw29.TrackTables': WHATEVER THE INPUT: true; the input reads as it did. -/
def trackTablesSpec : ChangeSpec := { name := "trackTables", fn := fun _ => fun
  | [d1, d2, d3, d4, d5] => { results := [.lit (.bool true)], args := [d1, d2, d3, d4, d5] }
  | _ => none }
def trackTablesRow : OpenClaim := { program := "ytdllaekpkcanbaagreat", sum := "6164127edd09399584ec7e0241d4908bb79fb1348f288f7cf0814a82ee3c9346", func := "cnc/cnclaw29.TrackTables", spec := "trackTables", unfollowed := true, recurses := true, named := ["math/bits.divideError", "math/bits.overflowError"], apart := false }
def TrackTablesSaid : Prop := trackTablesRow.holds Tryz.pinned (OpenSpec.ofChange trackTablesSpec)

/-- ITS FALSE NEIGHBOUR: 'it returns false'. Refute it at one input. -/
def trackTablesWrong : ChangeSpec := { name := "trackTables", fn := fun _ => fun
  | [d1, d2, d3, d4, d5] => { results := [.lit (.bool false)], args := [d1, d2, d3, d4, d5] }
  | _ => none }
def TrackTablesWrongFalsely : Prop := trackTablesRow.holds Tryz.pinned (OpenSpec.ofChange trackTablesWrong)

/-- 'cnclaw29.TrackLeg': WHATEVER THE INPUT: true; the input reads as it did. -/
def trackLegSpec : ChangeSpec := { name := "trackLeg", fn := fun _ => fun
  | [d1, d2, d3, d4, d5, d6] => { results := [.lit (.bool true)], args := [d1, d2, d3, d4, d5, d6] }
  | _ => none }
def trackLegRow : OpenClaim := { program := "ytdllaekpkcanbaagreat", sum := "6164127edd09399584ec7e0241d4908bb79fb1348f288f7cf0814a82ee3c9346", func := "cnc/cnclaw29.TrackLeg", spec := "trackLeg", unfollowed := true, recurses := true, named := ["math/bits.divideError", "math/bits.overflowError"], apart := false }
def TrackLegSaid : Prop := trackLegRow.holds Tryz.pinned (OpenSpec.ofChange trackLegSpec)

/-- ITS FALSE NEIGHBOUR: 'it returns false'. Refute it at one input. -/
def trackLegWrong : ChangeSpec := { name := "trackLeg", fn := fun _ => fun
  | [d1, d2, d3, d4, d5, d6] => { results := [.lit (.bool false)], args := [d1, d2, d3, d4, d5, d6] }
  | _ => none }
def TrackLegWrongFalsely : Prop := trackLegRow.holds Tryz.pinned (OpenSpec.ofChange trackLegWrong)

/-- 'cnclaw29.TrackPlace': WHATEVER THE INPUT: true; the input reads as it did. -/
def trackPlaceSpec : ChangeSpec := { name := "trackPlace", fn := fun _ => fun
  | [d1, d2, d3, d4, d5, d6] => { results := [.lit (.bool true)], args := [d1, d2, d3, d4, d5, d6] }
  | _ => none }
def trackPlaceRow : OpenClaim := { program := "ytdllaekpkcanbaagreat", sum := "6164127edd09399584ec7e0241d4908bb79fb1348f288f7cf0814a82ee3c9346", func := "cnc/cnclaw29.TrackPlace", spec := "trackPlace", unfollowed := true, recurses := true, named := ["math/bits.divideError", "math/bits.overflowError"], apart := false }
def TrackPlaceSaid : Prop := trackPlaceRow.holds Tryz.pinned (OpenSpec.ofChange trackPlaceSpec)

/-- ITS FALSE NEIGHBOUR: 'it returns false'. Refute it at one input. -/
def trackPlaceWrong : ChangeSpec := { name := "trackPlace", fn := fun _ => fun
  | [d1, d2, d3, d4, d5, d6] => { results := [.lit (.bool false)], args := [d1, d2, d3, d4, d5, d6] }
  | _ => none }
def TrackPlaceWrongFalsely : Prop := trackPlaceRow.holds Tryz.pinned (OpenSpec.ofChange trackPlaceWrong)

/-- 'cnclaw29.TrackWhere': WHATEVER THE INPUT: true; the input reads as it did. -/
def trackWhereSpec : ChangeSpec := { name := "trackWhere", fn := fun _ => fun
  | [d1, d2, d3, d4, d5, d6] => { results := [.lit (.bool true)], args := [d1, d2, d3, d4, d5, d6] }
  | _ => none }
def trackWhereRow : OpenClaim := { program := "ytdllaekpkcanbaagreat", sum := "6164127edd09399584ec7e0241d4908bb79fb1348f288f7cf0814a82ee3c9346", func := "cnc/cnclaw29.TrackWhere", spec := "trackWhere", unfollowed := true, recurses := true, named := ["math/bits.divideError", "math/bits.overflowError"], apart := false }
def TrackWhereSaid : Prop := trackWhereRow.holds Tryz.pinned (OpenSpec.ofChange trackWhereSpec)

/-- ITS FALSE NEIGHBOUR: 'it returns false'. Refute it at one input. -/
def trackWhereWrong : ChangeSpec := { name := "trackWhere", fn := fun _ => fun
  | [d1, d2, d3, d4, d5, d6] => { results := [.lit (.bool false)], args := [d1, d2, d3, d4, d5, d6] }
  | _ => none }
def TrackWhereWrongFalsely : Prop := trackWhereRow.holds Tryz.pinned (OpenSpec.ofChange trackWhereWrong)

/-- 'cnclaw25.PathAt': WHATEVER THE INPUT: true; the input reads as it did. -/
def pathAtSpec : ChangeSpec := { name := "pathAt", fn := fun _ => fun
  | [d1, d2] => { results := [.lit (.bool true)], args := [d1, d2] }
  | _ => none }
def pathAtRow : OpenClaim := { program := "ytdllaekpkcanbaagreat", sum := "6164127edd09399584ec7e0241d4908bb79fb1348f288f7cf0814a82ee3c9346", func := "cnc/cnclaw25.PathAt", spec := "pathAt", inPlace := ["math/bits.Sub64"], recurses := true, named := ["math/bits.divideError", "math/bits.overflowError"], apart := false }
def PathAtSaid : Prop := pathAtRow.holds Tryz.pinned (OpenSpec.ofChange pathAtSpec)

/-- ITS FALSE NEIGHBOUR: 'it returns false'. Refute it at one input. -/
def pathAtWrong : ChangeSpec := { name := "pathAt", fn := fun _ => fun
  | [d1, d2] => { results := [.lit (.bool false)], args := [d1, d2] }
  | _ => none }
def PathAtWrongFalsely : Prop := pathAtRow.holds Tryz.pinned (OpenSpec.ofChange pathAtWrong)

/-- 'cnclaw25.PathUnit': WHATEVER THE INPUT: true; the input reads as it did. -/
def pathUnitSpec : ChangeSpec := { name := "pathUnit", fn := fun _ => fun
  | [d1, d2] => { results := [.lit (.bool true)], args := [d1, d2] }
  | _ => none }
def pathUnitRow : OpenClaim := { program := "ytdllaekpkcanbaagreat", sum := "6164127edd09399584ec7e0241d4908bb79fb1348f288f7cf0814a82ee3c9346", func := "cnc/cnclaw25.PathUnit", spec := "pathUnit", inPlace := ["math/bits.Sub64"], recurses := true, named := ["math/bits.divideError", "math/bits.overflowError"], apart := false }
def PathUnitSaid : Prop := pathUnitRow.holds Tryz.pinned (OpenSpec.ofChange pathUnitSpec)

/-- ITS FALSE NEIGHBOUR: 'it returns false'. Refute it at one input. -/
def pathUnitWrong : ChangeSpec := { name := "pathUnit", fn := fun _ => fun
  | [d1, d2] => { results := [.lit (.bool false)], args := [d1, d2] }
  | _ => none }
def PathUnitWrongFalsely : Prop := pathUnitRow.holds Tryz.pinned (OpenSpec.ofChange pathUnitWrong)

/-- 'cnclaw25.PathRaw': WHATEVER THE INPUT: true; the input reads as it did. -/
def pathRawSpec : ChangeSpec := { name := "pathRaw", fn := fun _ => fun
  | [d1, d2, d3] => { results := [.lit (.bool true)], args := [d1, d2, d3] }
  | _ => none }
def pathRawRow : OpenClaim := { program := "ytdllaekpkcanbaagreat", sum := "6164127edd09399584ec7e0241d4908bb79fb1348f288f7cf0814a82ee3c9346", func := "cnc/cnclaw25.PathRaw", spec := "pathRaw", inPlace := ["math/bits.Sub64"], recurses := true, named := ["math/bits.divideError", "math/bits.overflowError"], apart := false }
def PathRawSaid : Prop := pathRawRow.holds Tryz.pinned (OpenSpec.ofChange pathRawSpec)

/-- ITS FALSE NEIGHBOUR: 'it returns false'. Refute it at one input. -/
def pathRawWrong : ChangeSpec := { name := "pathRaw", fn := fun _ => fun
  | [d1, d2, d3] => { results := [.lit (.bool false)], args := [d1, d2, d3] }
  | _ => none }
def PathRawWrongFalsely : Prop := pathRawRow.holds Tryz.pinned (OpenSpec.ofChange pathRawWrong)

/-- 'cnclaw25.PathValid': WHATEVER THE INPUT: true; the input reads as it did. -/
def pathValidSpec : ChangeSpec := { name := "pathValid", fn := fun _ => fun
  | [d1, d2, d3, d4] => { results := [.lit (.bool true)], args := [d1, d2, d3, d4] }
  | _ => none }
def pathValidRow : OpenClaim := { program := "ytdllaekpkcanbaagreat", sum := "6164127edd09399584ec7e0241d4908bb79fb1348f288f7cf0814a82ee3c9346", func := "cnc/cnclaw25.PathValid", spec := "pathValid", inPlace := ["math/bits.Sub64"], recurses := true, named := ["math/bits.divideError", "math/bits.overflowError"], apart := false }
def PathValidSaid : Prop := pathValidRow.holds Tryz.pinned (OpenSpec.ofChange pathValidSpec)

/-- ITS FALSE NEIGHBOUR: 'it returns false'. Refute it at one input. -/
def pathValidWrong : ChangeSpec := { name := "pathValid", fn := fun _ => fun
  | [d1, d2, d3, d4] => { results := [.lit (.bool false)], args := [d1, d2, d3, d4] }
  | _ => none }
def PathValidWrongFalsely : Prop := pathValidRow.holds Tryz.pinned (OpenSpec.ofChange pathValidWrong)

/-- 'cnclaw25.PathBuild': WHATEVER THE INPUT: true; the input reads as it did. -/
def pathBuildSpec : ChangeSpec := { name := "pathBuild", fn := fun _ => fun
  | [d1, d2] => { results := [.lit (.bool true)], args := [d1, d2] }
  | _ => none }
def pathBuildRow : OpenClaim := { program := "ytdllaekpkcanbaagreat", sum := "6164127edd09399584ec7e0241d4908bb79fb1348f288f7cf0814a82ee3c9346", func := "cnc/cnclaw25.PathBuild", spec := "pathBuild", inPlace := ["math/bits.Sub64"], recurses := true, named := ["math/bits.divideError", "math/bits.overflowError"], apart := false }
def PathBuildSaid : Prop := pathBuildRow.holds Tryz.pinned (OpenSpec.ofChange pathBuildSpec)

/-- ITS FALSE NEIGHBOUR: 'it returns false'. Refute it at one input. -/
def pathBuildWrong : ChangeSpec := { name := "pathBuild", fn := fun _ => fun
  | [d1, d2] => { results := [.lit (.bool false)], args := [d1, d2] }
  | _ => none }
def PathBuildWrongFalsely : Prop := pathBuildRow.holds Tryz.pinned (OpenSpec.ofChange pathBuildWrong)

/- THE SECOND FORM. 'bulk': how many values and letters a reading holds, each counted each time it is reached (what is shared counts as often as it is met; a slice's spare places count too). A statement '..UptoSaid' is the law's where the arguments, and the package variables that the reading takes, are together of bulk at most 1048576: NARROWER than '..Said'. Prove '..Said' where nothing that the law and all that it calls make is longer than what came in: it says more and counts as full. Else prove '..UptoSaid'. A law counts once. -/
mutual
def uptoBulk {H : Type} : DataW H → Nat
  | .lit (.string bytes) => bytes.length + 1
  | .lit _ => 1
  | .nil => 1
  | .ptr d => uptoBulk d + 1
  | .slice elems spare => uptoBulkAll elems + uptoBulkAll spare + 1
  | .agg parts => uptoBulkAll parts + 1
  | .iface _ d => uptoBulk d + 1
  | .map entries => uptoBulkEntries entries + 1
  | .held _ => 1
def uptoBulkAll {H : Type} : List (DataW H) → Nat
  | [] => 0
  | d :: r => uptoBulk d + uptoBulkAll r
def uptoBulkEntries {H : Type} : List (Lit × DataW H) → Nat
  | [] => 0
  | x :: r => uptoBulkEntry x + uptoBulkEntries r
def uptoBulkEntry {H : Type} : Lit × DataW H → Nat
  | (.string bytes, d) => bytes.length + uptoBulk d + 1
  | (_, d) => uptoBulk d + 1
 end
def uptoSmall : (H : Type) → List (DataW H) → Bool := fun _ ds => decide (uptoBulkAll ds ≤ 1048576)
def OpenSpec.upto (s : _root_.Go.ChangeSpec) : _root_.Go.OpenSpec := { _root_.Go.OpenSpec.ofChange s with cond := some uptoSmall }

/-- 'cnclaw29.TrackMotors', WHERE WHAT IT READS IS OF BULK AT MOST 1048576: true; the input reads as it did. -/
def trackMotorsUptoRow : OpenClaim := { program := "ytdllaekpkcanbaagreat", sum := "6164127edd09399584ec7e0241d4908bb79fb1348f288f7cf0814a82ee3c9346", func := "cnc/cnclaw29.TrackMotors", spec := "trackMotors", unfollowed := true, recurses := true, named := ["math/bits.divideError", "math/bits.overflowError"], apart := false, narrowed := true }
def TrackMotorsUptoSaid : Prop := trackMotorsUptoRow.holds Tryz.pinned (OpenSpec.upto trackMotorsSpec)

/-- 'cnclaw29.TrackUnit', WHERE WHAT IT READS IS OF BULK AT MOST 1048576: true; the input reads as it did. -/
def trackUnitUptoRow : OpenClaim := { program := "ytdllaekpkcanbaagreat", sum := "6164127edd09399584ec7e0241d4908bb79fb1348f288f7cf0814a82ee3c9346", func := "cnc/cnclaw29.TrackUnit", spec := "trackUnit", unfollowed := true, recurses := true, named := ["math/bits.divideError", "math/bits.overflowError"], apart := false, narrowed := true }
def TrackUnitUptoSaid : Prop := trackUnitUptoRow.holds Tryz.pinned (OpenSpec.upto trackUnitSpec)

/-- 'cnclaw29.TrackTables', WHERE WHAT IT READS IS OF BULK AT MOST 1048576: true; the input reads as it did. -/
def trackTablesUptoRow : OpenClaim := { program := "ytdllaekpkcanbaagreat", sum := "6164127edd09399584ec7e0241d4908bb79fb1348f288f7cf0814a82ee3c9346", func := "cnc/cnclaw29.TrackTables", spec := "trackTables", unfollowed := true, recurses := true, named := ["math/bits.divideError", "math/bits.overflowError"], apart := false, narrowed := true }
def TrackTablesUptoSaid : Prop := trackTablesUptoRow.holds Tryz.pinned (OpenSpec.upto trackTablesSpec)

/-- 'cnclaw29.TrackLeg', WHERE WHAT IT READS IS OF BULK AT MOST 1048576: true; the input reads as it did. -/
def trackLegUptoRow : OpenClaim := { program := "ytdllaekpkcanbaagreat", sum := "6164127edd09399584ec7e0241d4908bb79fb1348f288f7cf0814a82ee3c9346", func := "cnc/cnclaw29.TrackLeg", spec := "trackLeg", unfollowed := true, recurses := true, named := ["math/bits.divideError", "math/bits.overflowError"], apart := false, narrowed := true }
def TrackLegUptoSaid : Prop := trackLegUptoRow.holds Tryz.pinned (OpenSpec.upto trackLegSpec)

/-- 'cnclaw29.TrackPlace', WHERE WHAT IT READS IS OF BULK AT MOST 1048576: true; the input reads as it did. -/
def trackPlaceUptoRow : OpenClaim := { program := "ytdllaekpkcanbaagreat", sum := "6164127edd09399584ec7e0241d4908bb79fb1348f288f7cf0814a82ee3c9346", func := "cnc/cnclaw29.TrackPlace", spec := "trackPlace", unfollowed := true, recurses := true, named := ["math/bits.divideError", "math/bits.overflowError"], apart := false, narrowed := true }
def TrackPlaceUptoSaid : Prop := trackPlaceUptoRow.holds Tryz.pinned (OpenSpec.upto trackPlaceSpec)

/-- 'cnclaw29.TrackWhere', WHERE WHAT IT READS IS OF BULK AT MOST 1048576: true; the input reads as it did. -/
def trackWhereUptoRow : OpenClaim := { program := "ytdllaekpkcanbaagreat", sum := "6164127edd09399584ec7e0241d4908bb79fb1348f288f7cf0814a82ee3c9346", func := "cnc/cnclaw29.TrackWhere", spec := "trackWhere", unfollowed := true, recurses := true, named := ["math/bits.divideError", "math/bits.overflowError"], apart := false, narrowed := true }
def TrackWhereUptoSaid : Prop := trackWhereUptoRow.holds Tryz.pinned (OpenSpec.upto trackWhereSpec)

/-- 'cnclaw25.PathAt', WHERE WHAT IT READS IS OF BULK AT MOST 1048576: true; the input reads as it did. -/
def pathAtUptoRow : OpenClaim := { program := "ytdllaekpkcanbaagreat", sum := "6164127edd09399584ec7e0241d4908bb79fb1348f288f7cf0814a82ee3c9346", func := "cnc/cnclaw25.PathAt", spec := "pathAt", inPlace := ["math/bits.Sub64"], recurses := true, named := ["math/bits.divideError", "math/bits.overflowError"], apart := false, narrowed := true }
def PathAtUptoSaid : Prop := pathAtUptoRow.holds Tryz.pinned (OpenSpec.upto pathAtSpec)

/-- 'cnclaw25.PathUnit', WHERE WHAT IT READS IS OF BULK AT MOST 1048576: true; the input reads as it did. -/
def pathUnitUptoRow : OpenClaim := { program := "ytdllaekpkcanbaagreat", sum := "6164127edd09399584ec7e0241d4908bb79fb1348f288f7cf0814a82ee3c9346", func := "cnc/cnclaw25.PathUnit", spec := "pathUnit", inPlace := ["math/bits.Sub64"], recurses := true, named := ["math/bits.divideError", "math/bits.overflowError"], apart := false, narrowed := true }
def PathUnitUptoSaid : Prop := pathUnitUptoRow.holds Tryz.pinned (OpenSpec.upto pathUnitSpec)

/-- 'cnclaw25.PathRaw', WHERE WHAT IT READS IS OF BULK AT MOST 1048576: true; the input reads as it did. -/
def pathRawUptoRow : OpenClaim := { program := "ytdllaekpkcanbaagreat", sum := "6164127edd09399584ec7e0241d4908bb79fb1348f288f7cf0814a82ee3c9346", func := "cnc/cnclaw25.PathRaw", spec := "pathRaw", inPlace := ["math/bits.Sub64"], recurses := true, named := ["math/bits.divideError", "math/bits.overflowError"], apart := false, narrowed := true }
def PathRawUptoSaid : Prop := pathRawUptoRow.holds Tryz.pinned (OpenSpec.upto pathRawSpec)

/-- 'cnclaw25.PathValid', WHERE WHAT IT READS IS OF BULK AT MOST 1048576: true; the input reads as it did. -/
def pathValidUptoRow : OpenClaim := { program := "ytdllaekpkcanbaagreat", sum := "6164127edd09399584ec7e0241d4908bb79fb1348f288f7cf0814a82ee3c9346", func := "cnc/cnclaw25.PathValid", spec := "pathValid", inPlace := ["math/bits.Sub64"], recurses := true, named := ["math/bits.divideError", "math/bits.overflowError"], apart := false, narrowed := true }
def PathValidUptoSaid : Prop := pathValidUptoRow.holds Tryz.pinned (OpenSpec.upto pathValidSpec)

/-- 'cnclaw25.PathBuild', WHERE WHAT IT READS IS OF BULK AT MOST 1048576: true; the input reads as it did. -/
def pathBuildUptoRow : OpenClaim := { program := "ytdllaekpkcanbaagreat", sum := "6164127edd09399584ec7e0241d4908bb79fb1348f288f7cf0814a82ee3c9346", func := "cnc/cnclaw25.PathBuild", spec := "pathBuild", inPlace := ["math/bits.Sub64"], recurses := true, named := ["math/bits.divideError", "math/bits.overflowError"], apart := false, narrowed := true }
def PathBuildUptoSaid : Prop := pathBuildUptoRow.holds Tryz.pinned (OpenSpec.upto pathBuildSpec)

end Rows
end Go.Proofs.YtdllaekpkcanbaaGreat
