/- The program's types as plain structures, and the cells that stand for their values. -/
import Derived.Test.YtdllaekpkcanbaaBmKit
set_option linter.unusedVariables false
set_option linter.unusedSimpArgs false
namespace Go.Bm

structure Pt where
 (x y z : Int)
structure Itm where
 (kind block : Int)
 (fr to : Pt)
 (plane : Int)
 (ce : Pt)
 (dir : Int)
 full : Bool
 feed : Int
 perRev : Bool
 (side radius blend n speed : Int)
 on : Bool
structure Sgm where
 to : Pt
 (len item feed lead : Int)
structure Mrk where
 (at_ kind item : Int)
structure Pth where
 start : Pt
 segs : List Sgm
 marks : List Mrk
structure Axs where
 (step speed accel jerk low high back origin spacing : Int)
 pitch : List Int
structure Pce where
 (at_ units s move : Int)
 (was dirs : Pt)
structure Trk where
 pieces : List Pce
 (length start : Int)
 dirs : Pt
structure Spk where
 (u w r h : Int)

instance : DecidableEq Pt := fun a b => by
 obtain ⟨a1, a2, a3⟩ := a; obtain ⟨b1, b2, b3⟩ := b
 exact decidable_of_iff (a1 = b1 /\ a2 = b2 /\ a3 = b3) (by simp)
instance : DecidableEq Sgm := fun a b => by
 obtain ⟨a1, a2, a3, a4, a5⟩ := a; obtain ⟨b1, b2, b3, b4, b5⟩ := b
 exact decidable_of_iff (a1 = b1 /\ a2 = b2 /\ a3 = b3 /\ a4 = b4 /\ a5 = b5) (by simp)
instance : DecidableEq Mrk := fun a b => by
 obtain ⟨a1, a2, a3⟩ := a; obtain ⟨b1, b2, b3⟩ := b
 exact decidable_of_iff (a1 = b1 /\ a2 = b2 /\ a3 = b3) (by simp)
instance : DecidableEq Pce := fun a b => by
 obtain ⟨a1, a2, a3, a4, a5, a6⟩ := a; obtain ⟨b1, b2, b3, b4, b5, b6⟩ := b
 exact decidable_of_iff (a1 = b1 /\ a2 = b2 /\ a3 = b3 /\ a4 = b4 /\ a5 = b5 /\ a6 = b6) (by simp)

abbrev kI : Kd := .int .i64
abbrev kB : Kd := .bool
abbrev Qax : List Kd := [kI]
abbrev kPt : List Kd := [kI, kI, kI]
abbrev kItm : List Kd := [kI, kI, kI, kI, kI, kI, kI, kI, kI, kI, kI, kI, kI, kB, kI, kB, kI, kI, kI, kI, kI, kB]
abbrev kSgm : List Kd := [kI, kI, kI, kI, kI, kI, kI]
abbrev kMrk : List Kd := [kI, kI, kI]
abbrev kSpk : List Kd := [kI, kI, kI, kI]

abbrev ptR (p : Pt) : List AC := [I p.x, I p.y, I p.z]
abbrev itmR (t : Itm) : List AC := [I t.kind, I t.block, I t.fr.x, I t.fr.y, I t.fr.z, I t.to.x, I t.to.y, I t.to.z, I t.plane, I t.ce.x, I t.ce.y, I t.ce.z, I t.dir, B t.full, I t.feed, B t.perRev, I t.side, I t.radius, I t.blend, I t.n, I t.speed, B t.on]
abbrev sgmR (g : Sgm) : List AC := [I g.to.x, I g.to.y, I g.to.z, I g.len, I g.item, I g.feed, I g.lead]
abbrev mrkR (m : Mrk) : List AC := [I m.at_, I m.kind, I m.item]
abbrev spkR (s : Spk) : List AC := [I s.u, I s.w, I s.r, I s.h]
abbrev pthR (p : Pth) : List AC := [I p.start.x, I p.start.y, I p.start.z, .view kSgm (p.segs.map sgmR), .view kMrk (p.marks.map mrkR)]
theorem okC_int {a : AC} (h : okC kI a) : i64 (Qav a) := by
 unfold okC at h
 unfold i64
 exact h
abbrev gA (l : List AC) (k : Nat) : Int := Qav (nth .dead l k)
abbrev jA (l : List AC) (k : Nat) : AC := .int .i64 (Qav (nth .dead l k))
abbrev wA (l : List AC) (k : Nat) : List (List AC) := rowsOf (nth .dead l k)
abbrev bA (l : List AC) (k : Nat) : Bool := boolOf (nth .dead l k)
abbrev Fn := List AC -> Option (List AC)
abbrev Lp := List AC -> Option (Nat × List AC)
abbrev Rw := List (List AC)
abbrev ci : CS := .int .i64
abbrev tf : List CS -> TS := .v false
abbrev td : TS := .dead
attribute [go_sem] gA jA wA bA
end Go.Bm
